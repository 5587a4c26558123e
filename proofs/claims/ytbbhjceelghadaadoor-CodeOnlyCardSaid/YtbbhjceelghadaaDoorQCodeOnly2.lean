/- Parts of the proof, one behind the other: Base, Row, Card, Order, K0, K44, K39, K41, K45, K1, K46, K34, K35, K36. -/
import Derived.Test.YtbbhjceelghadaaDoorQCodeOnly1
import Derived.Test.YtbbhjceelghadaaDoorProg
import Derived.Below
import Derived.Deep.Draws
import Derived.Deep.AppendLies
import Derived.Maps.AppendAt
import Derived.OwnWalk
import Derived.Laws.BytesArg
import Derived.Laws.MakeOwn
import Derived.Laws.OwnMore
import Derived.Deep.OwnRows
import Derived.Tactics
import Derived.Lib.ConvBytes
import Derived.Laws.Slices
import Derived.WalkKit
import Derived.KernelRfl
import Derived.RowKit3
import Derived.Deep.LoopGhost
import Derived.Deep.QuietTactic
import Derived.BigQuiet
import Derived.WideLaws
import Derived.Deep.DeepCutAuto
import Derived.Deep.CutBlock
import Derived.Deep.RegionHeld3
import Derived.Laws.Rows
import Derived.Lib.AppendStr
import Derived.ArgAppend
import Derived.Laws.IdiomCopy
import Derived.OrdersHeld
import Derived.Laws.BitsLemmas
import Derived.RowKit
import Derived.WalkSpells
import Derived.WalkLawsBesides
import Derived.RegionTactic
import Derived.ChangeAlike
import Derived.Lib.Hide
import Derived.Lib.SlBytesConst
import Derived.ProofKit
import Derived.OpenShut
import Derived.ShutString
import Derived.ChangeOld
import Derived.SizedLaws
import Derived.ChangeSlices
import Derived.Test.YtbbhjceelghadaaDoorCards
import Derived.Test.YtbbhjceelghadaaDoorTie
import Derived.LaidMore
import Derived.Stop.Joined
import Derived.Deep.DeepHandedRow
import Derived.Test.YtbbhjceelghadaaDoorRows
import Derived.JoinedCond
import Derived.Laws.StructEq
set_option linter.unusedVariables false
set_option linter.unusedSimpArgs false
section
-- from Base
namespace Go.Proofs.YtbbhjceelghadaaDoor.My
open Go Go.RowKit Go.Proofs.YtbbhjceelghadaaDoorW.PrintWords
/-- A byte in a cell. -/
def kb : Kd UInt8 := Kd.scalar (fun b => Value.int .u8 (b.toNat : Int)) (fun _ => rfl)
theorem C_at {w : World} {A : Option Addr} {n : Nat} {l : List UInt8} (h : kb.C w A n l) (i : Nat) (hi : i < n) : ∃ ad, A = some ad ∧ w.cell? (ad.add i) = some (.int .u8 (l.getD i 0).toNat) := by
  obtain ⟨ad, c, e, hl, hK, hc⟩ := Kd.C_get h 0 (i : Int) (by omega) (by omega)
  have hK' : c = [.int .u8 (l.getD i 0).toNat] := hK
  subst hK'
  have := hc 0 _ rfl
  simp only [Int.toNat_natCast, Nat.add_zero] at this
  rw [show kb.sz = 1 from rfl, Nat.mul_one] at this
  exact ⟨ad, e, this⟩
theorem C_max {α : Type} {d : Kd α} {w : World} {A : Option Addr} {n : Nat} {l : List α} (h : d.C w A n l) : n ≤ 9223372036854775807 := h.2.1
theorem take_succ_getD {α : Type} (d : α) (l : List α) (k : Nat) (h : k < l.length) : l.take (k + 1) = l.take k ++ [l.getD k d] := by
  rw [List.take_succ_eq_append_getElem h, List.getD_eq_getElem?_getD, List.getElem?_eq_getElem h]; rfl
/-- The cells of a slice of slices of bytes. -/
def Cs (W : World) (cs : List Value) (ls : List (List UInt8)) : Prop :=
  cs.length = ls.length ∧ ∀ (i : Nat) (l : List UInt8), ls[i]? = some l → ∃ A c, cs[i]? = some (.slice A l.length c) ∧ l.length ≤ c ∧ kb.C W A l.length l
theorem Cs.nil (W : World) : Cs W [] [] := ⟨rfl, fun i l h => by simp at h⟩
theorem Cs.cons {W : World} {cs : List Value} {ls : List (List UInt8)} {A : Option Addr} {c n : Nat} {l : List UInt8} (h : kb.C W A n l) (hc : n ≤ c) (hs : Cs W cs ls) : Cs W (.slice A n c :: cs) (l :: ls) := by
  have hn := h.1
  subst hn
  refine ⟨by simp [hs.1], fun i x hx => ?_⟩
  rcases i with _ | i
  · obtain rfl : l = x := by simpa using hx
    exact ⟨A, c, rfl, hc, h⟩
  · exact hs.2 i x (by simpa using hx)
theorem heap_new' {W : World} {o : Obj} {b : Nat} (hb : b = W.heap.size) : (W.alloc o).heap[b]? = some o := by
  subst hb
  show (W.heap.push o)[W.heap.size]? = _
  simp
theorem heap_old' {W : World} {o o' : Obj} {b : Nat} (h : W.heap[b]? = some o') : (W.alloc o).heap[b]? = some o' := by
  rw [Below.heap_alloc _ _ _ (blk_lt h)]
  exact h
theorem heap_below {W W' : World} {o : Obj} {b : Nat} (hb : Below W.heap.size W W') (h : W.heap[b]? = some o) : W'.heap[b]? = some o := (hb.block b (blk_lt h)).trans h
theorem info_bytes : (Tryd.prog.info? 5).map (·.size) = some 1 := by kernel_rfl
theorem cut_l {w : World} {A : Option Addr} {c : Nat} {l : List UInt8} (h : kb.C w A l.length l) (hc : l.length ≤ c) (lo : Nat) (loI : Int) (e1 : loI = lo) (h1 : lo ≤ l.length) :
    ∃ A', (∀ W : World, (Instr.slice 23 (.slice A l.length c) (some (.int .i64 loI)) none none).run Tryd.prog W = .ok (.slice A' (l.length - lo) (c - lo)) W) ∧ kb.C w A' (l.length - lo) (l.drop lo) := by
  subst e1
  obtain ⟨i, hi0, hsz⟩ := Option.map_eq_some_iff.1 info_bytes
  have hl : (l.drop lo).length = l.length - lo := List.length_drop
  refine ⟨if c = lo then A else A.map (·.add lo), fun W => ?_, ?_⟩
  · have hel : Tryd.prog.elem 23 = 5 := by simp [Program.elem, Tryd.underlying23]
    have hu : Tryd.prog.underlying 23 = some (.slice (Tryd.prog.elem 23)) := by rw [hel]; exact Tryd.underlying23
    rw [run_slice_l W 23 A l.length c hu .i64 (lo : Int) (Int.natCast_nonneg _) (by omega), hel]
    simp [sizeOf, typeInfo, hi0, hsz, sliced, Result.andThen]
  · have := Kd.C_drop h h1 hc
    rw [hl, show lo * kb.sz = lo from Nat.mul_one _] at this
    exact this
theorem cut_h (A : Option Addr) (n c hi : Nat) (hiI : Int) (e1 : hiI = hi) (h1 : hi ≤ n) (hc : n ≤ c) :
    ∀ W : World, (Instr.slice 23 (.slice A n c) none (some (.int .i64 hiI)) none).run Tryd.prog W = .ok (.slice A hi c) W := by
  subst e1
  intro W
  obtain ⟨i, hi0, hsz⟩ := Option.map_eq_some_iff.1 info_bytes
  have hel : Tryd.prog.elem 23 = 5 := by simp [Program.elem, Tryd.underlying23]
  have hu : Tryd.prog.underlying 23 = some (.slice (Tryd.prog.elem 23)) := by rw [hel]; exact Tryd.underlying23
  rw [run_slice_h W 23 A n c hu .i64 (hi : Int) (Int.natCast_nonneg _) (by omega), hel]
  simp [sizeOf, typeInfo, hi0, hsz, sliced, Result.andThen]
  intro _
  cases A with
  | none => rfl
  | some a => simp [Addr.add]
/-- Bytes as a string. -/
def bs (l : List UInt8) : ByteArray := ⟨l.toArray⟩
theorem bs_toList (l : List UInt8) : (bs l).data.toList = l := by simp [bs]
theorem bs_list (l : List UInt8) : (bs l).toList = l := by rw [ByteArray.toList_eq, bs_toList]
theorem ints_of_kb {w : World} {A : Option Addr} {n : Nat} {l : List UInt8} (h : kb.C w A n l) : ReadsInt w .u8 A n (l.map fun b => (b.toNat : Int)) := by
  refine ⟨by rw [List.length_map]; exact h.1, h.2.1, fun hn => ?_⟩
  obtain ⟨ad, e, _⟩ := h.2.2 hn
  refine ⟨ad, e, fun i hi => ?_⟩
  obtain ⟨ad', e', hc⟩ := C_at h i hi
  obtain rfl : ad = ad' := by rw [e] at e'; injection e'
  rw [hc, List.getD_eq_getElem?_getD, List.getD_eq_getElem?_getD, List.getElem?_map]
  rw [List.getElem?_eq_getElem (by have := h.1; omega)]
  rfl
theorem kb_of_ints {w : World} {A : Option Addr} {n : Nat} {l : List UInt8} (h : ReadsInt w .u8 A n (l.map fun b => (b.toNat : Int))) : kb.C w A n l := by
  refine ⟨by rw [← h.1, List.length_map], h.2.1, fun hn => ?_⟩
  obtain ⟨ad, e, hc⟩ := h.2.2 hn
  refine ⟨ad, e, fun j p hj => ⟨[.int .u8 (p.toNat : Int)], rfl, rfl, fun i u hi => ?_⟩⟩
  have hi0 : i = 0 := by
    rcases i with _ | i
    · rfl
    · simp at hi
  subst hi0
  have hu : u = .int .u8 (p.toNat : Int) := by simpa using hi.symm
  subst hu
  have hl := (List.getElem?_eq_some_iff.1 hj).1
  rw [show kb.sz = 1 from rfl, Nat.mul_one, Nat.add_zero, hc j (by have := h.1; rw [List.length_map] at this; omega), List.getD_eq_getElem?_getD, List.getElem?_map, hj]
  rfl
theorem str_of_nums (l : List UInt8) : strOfNums (l.map fun b => (b.toNat : Int)) = bs l := by
  unfold strOfNums bs
  congr 1
  apply Array.ext'
  simp only [List.map_map]
  conv => rhs; rw [← List.map_id l]
  apply List.map_congr_left
  intro b _
  simp
theorem conv_string {w : World} {A : Option Addr} {n c : Nat} {l : List UInt8} (h : kb.C w A n l) : (convert 23 9 (.slice A n c)).run Tryd.prog w = .ok (.string (bs l)) w := by
  rw [← str_of_nums]
  exact string_of_reads Tryd.underlying23 Tryd.underlying5 Tryd.underlying9 (ints_of_kb h)
theorem below_bytesWorld {w W : World} (h : Below w.heap.size w W) (e : TypeId) (s : ByteArray) : Below w.heap.size w (Lib.bytesWorld W e s) := bytes_below h h.size e s
/-- All blocks but one are as they were, and no block has come or gone. -/
structure Only (b : Nat) (w w' : World) : Prop where
  os : w'.os = w.os
  tape : w'.tape = w.tape
  output : w'.output = w.output
  size : w'.heap.size = w.heap.size
  block : ∀ k, k ≠ b → w'.heap[k]? = w.heap[k]?
theorem Only.refl (b : Nat) (w : World) : Only b w w := ⟨rfl, rfl, rfl, rfl, fun _ _ => rfl⟩
theorem Only.set {b : Nat} {w w' : World} (h : Only b w w') (o : Nat) (v : Value) : Only b w (w'.setCell ⟨b, o, none⟩ v) :=
  ⟨h.os, h.tape, h.output, by simp [World.setCell, h.size], fun k hk => by rw [Below.heap_setCell _ _ _ _ hk]; exact h.block k hk⟩
theorem Only.drew {b : Nat} {w w' : World} (h : Only b w w') : Only b w w'.drew := ⟨h.os, h.tape, h.output, h.size, h.block⟩
theorem Only.below {b B : Nat} {w0 w w' : World} (h : Only b w w') (hB : B ≤ b) (h0 : Below B w0 w) : Below B w0 w' :=
  ⟨h.os.trans h0.os, h.tape.trans h0.tape, h.output.trans h0.output, by rw [h.size]; exact h0.size, fun k hk => (h.block k (by omega)).trans (h0.block k hk)⟩
end Go.Proofs.YtbbhjceelghadaaDoor.My
end

section
-- from Row
namespace Go.Proofs.YtbbhjceelghadaaDoor.My
open Go Go.RowKit Go.Proofs.YtbbhjceelghadaaDoorW.PrintWords
theorem own : ownKnob Tryd.prog.godebug = none := by kernel_rfl
theorem laidOut : laidOutB Tryd.prog = true := by kernel_rfl
theorem wf_u8 {n : Int} (h : (Lit.int .u8 n).wf = true) : 0 ≤ n ∧ n < 256 := by
  have := bounds_u8 h
  omega
end Go.Proofs.YtbbhjceelghadaaDoor.My
end

section
-- from Card
namespace Go.Proofs.YtbbhjceelghadaaDoor.My
open Go Go.RowKit
theorem door_met (os : Os) (args : Array Value) : laidMetH Tryd.prog [("bytes.ErrTooLarge", Rows.laid_bytes_ErrTooLarge)] ((World.doorLaid Tryd.prog 400 os).forCall (fun _ _ => 0) ⟨#[], args, []⟩).memory :=
  show laidMetH Tryd.prog [("bytes.ErrTooLarge", Rows.laid_bytes_ErrTooLarge)] _ from laidMetH_of_parts3 (fuel := 8) (laidMet_of_run' 8 (by kernel_rfl) (by kernel_rfl)) (by kernel_rfl) (by kernel_rfl)
theorem door_shaped (os : Os) (args : Array Value) : ((World.doorLaid Tryd.prog 400 os).forCall (fun _ _ => 0) ⟨#[], args, []⟩).Shaped Tryd.prog := World.shaped_of_RefB (by kernel_rfl) (by kernel_rfl)
theorem witness_door {H : Type} {enc : TypeId × Value → H} {os : Os} {f : FuncId} {fn : Func} {s : OpenSpec} (args : Array Value) {x : List (DataW H) × List (DataW H) × List MemPlace}
    (hok : Input.okWideB Tryd.prog ((World.doorLaid Tryd.prog 400 os).forCall (fun _ _ => 0) ⟨#[], args, []⟩) f ⟨#[], args, []⟩ = true)
    (hx : DataW.whole enc Tryd.prog ((World.doorLaid Tryd.prog 400 os).forCall (fun _ _ => 0) ⟨#[], args, []⟩).memory fn.params.toList s.vars false args.toList 8 = some x)
    (hkk : ∀ k, s.cond = some k → k H (x.1 ++ x.2.1) = true)
    (hsz : s.bare.sizedB enc Tryd.prog fn false ((World.doorLaid Tryd.prog 400 os).forCall (fun _ _ => 0) ⟨#[], args, []⟩).memory args 8 = true) :
    ∃ (w : World) (tape : Tape) (i : Input), w.os = os ∧ (w.forCall tape i).Shaped Tryd.prog ∧ i.vars = [] ∧ Input.okWide Tryd.prog (w.forCall tape i) .any w.heap.size f i ∧
      s.preRow enc Tryd.prog fn [] false [("bytes.ErrTooLarge", Rows.laid_bytes_ErrTooLarge)] (w.forCall tape i).memory i.args ∧ ({} : Assume).holds Tryd.prog (lone (Frame.enter Tryd.prog f i.args .normal) [] (w.forCall tape i)) :=
  ⟨World.doorLaid Tryd.prog 400 os, fun _ _ => 0, ⟨#[], args, []⟩, rfl, door_shaped os args, (Input.okWide_of_okWideB (base := 0) hok).1, (Input.okWide_of_okWideB hok).2,
    OpenSpec.preRow_of_cond 8 hx rfl hkk hsz (door_met os args), by
    simp only [Assume.holds]
    exact ⟨by simp, by simp, fun _ => Modest.zero, by simp, by simp⟩⟩
end Go.Proofs.YtbbhjceelghadaaDoor.My
end

section
-- from Order
namespace Go.Proofs.YtbbhjceelghadaaDoor.My
open Go
set_option maxRecDepth 100000
theorem words_cons (c : Char) (h : c ≠ Char.ofNat 32) {r w : List Char} {ws : List (List Char)} (hr : wordsSigns r = w :: ws) : wordsSigns (c :: r) = (c :: w) :: ws := by
  unfold wordsSigns
  split
  · rename_i heq; cases heq
  · rename_i heq; injection heq with h1 _; exact absurd h1 h
  · rename_i heq; injection heq with h1 h2; subst h1; subst h2; rw [hr]
theorem words_cut : ∀ (w : List Char), (w.all fun c => decide (c ≠ Char.ofNat 32)) = true → ∀ r, wordsSigns (w ++ Char.ofNat 32 :: r) = w :: wordsSigns r
  | [], _, r => rfl
  | c :: w, h, r => by
    simp only [List.all_cons, Bool.and_eq_true, decide_eq_true_eq] at h
    exact words_cons c h.1 (words_cut w h.2 r)
def word0 : List Char := [Char.ofNat 104, Char.ofNat 97, Char.ofNat 114, Char.ofNat 110, Char.ofNat 101, Char.ofNat 115, Char.ofNat 115]
def word1 : List Char := [Char.ofNat 101, Char.ofNat 50, Char.ofNat 98, Char.ofNat 56, Char.ofNat 55, Char.ofNat 49, Char.ofNat 99, Char.ofNat 98, Char.ofNat 56, Char.ofNat 48, Char.ofNat 100, Char.ofNat 51, Char.ofNat 55, Char.ofNat 54, Char.ofNat 100, Char.ofNat 53, Char.ofNat 97, Char.ofNat 100, Char.ofNat 57, Char.ofNat 49,
    Char.ofNat 49, Char.ofNat 56, Char.ofNat 52, Char.ofNat 49, Char.ofNat 98, Char.ofNat 100, Char.ofNat 57, Char.ofNat 48, Char.ofNat 49, Char.ofNat 48, Char.ofNat 97, Char.ofNat 52, Char.ofNat 56, Char.ofNat 98, Char.ofNat 54, Char.ofNat 54, Char.ofNat 53, Char.ofNat 48, Char.ofNat 55, Char.ofNat 102,
    Char.ofNat 98, Char.ofNat 49, Char.ofNat 52, Char.ofNat 97, Char.ofNat 48, Char.ofNat 97, Char.ofNat 102, Char.ofNat 49, Char.ofNat 51, Char.ofNat 98, Char.ofNat 51, Char.ofNat 54, Char.ofNat 102, Char.ofNat 57, Char.ofNat 99, Char.ofNat 54, Char.ofNat 52, Char.ofNat 49, Char.ofNat 52, Char.ofNat 101,
    Char.ofNat 100, Char.ofNat 49, Char.ofNat 98, Char.ofNat 48]
def word2 : List Char := [Char.ofNat 99, Char.ofNat 117, Char.ofNat 116]
def behind : List Char := [Char.ofNat 97, Char.ofNat 116, Char.ofNat 32, Char.ofNat 115, Char.ofNat 116, Char.ofNat 114, Char.ofNat 97, Char.ofNat 116, Char.ofNat 117, Char.ofNat 109, Char.ofNat 47, Char.ofNat 115, Char.ofNat 116, Char.ofNat 114, Char.ofNat 97, Char.ofNat 116, Char.ofNat 117, Char.ofNat 109, Char.ofNat 108, Char.ofNat 97,
    Char.ofNat 119, Char.ofNat 49, Char.ofNat 48, Char.ofNat 46, Char.ofNat 68, Char.ofNat 105, Char.ofNat 115, Char.ofNat 107, Char.ofNat 76, Char.ofNat 97, Char.ofNat 115, Char.ofNat 116, Char.ofNat 115, Char.ofNat 32, Char.ofNat 115, Char.ofNat 116, Char.ofNat 114, Char.ofNat 97, Char.ofNat 116, Char.ofNat 117,
    Char.ofNat 109, Char.ofNat 47, Char.ofNat 115, Char.ofNat 116, Char.ofNat 114, Char.ofNat 97, Char.ofNat 116, Char.ofNat 117, Char.ofNat 109, Char.ofNat 108, Char.ofNat 97, Char.ofNat 119, Char.ofNat 49, Char.ofNat 48, Char.ofNat 46, Char.ofNat 68, Char.ofNat 105, Char.ofNat 115, Char.ofNat 107, Char.ofNat 82,
    Char.ofNat 111, Char.ofNat 111, Char.ofNat 109, Char.ofNat 32, Char.ofNat 115, Char.ofNat 116, Char.ofNat 114, Char.ofNat 97, Char.ofNat 116, Char.ofNat 117, Char.ofNat 109, Char.ofNat 47, Char.ofNat 115, Char.ofNat 116, Char.ofNat 114, Char.ofNat 97, Char.ofNat 116, Char.ofNat 117, Char.ofNat 109, Char.ofNat 108,
    Char.ofNat 97, Char.ofNat 119, Char.ofNat 49, Char.ofNat 48, Char.ofNat 46, Char.ofNat 68, Char.ofNat 105, Char.ofNat 115, Char.ofNat 107, Char.ofNat 67, Char.ofNat 97, Char.ofNat 108, Char.ofNat 108, Char.ofNat 115, Char.ofNat 32, Char.ofNat 115, Char.ofNat 116, Char.ofNat 114, Char.ofNat 97, Char.ofNat 116,
    Char.ofNat 117, Char.ofNat 109, Char.ofNat 47, Char.ofNat 115, Char.ofNat 116, Char.ofNat 114, Char.ofNat 97, Char.ofNat 116, Char.ofNat 117, Char.ofNat 109, Char.ofNat 108, Char.ofNat 97, Char.ofNat 119, Char.ofNat 49, Char.ofNat 48, Char.ofNat 46, Char.ofNat 68, Char.ofNat 105, Char.ofNat 115, Char.ofNat 107,
    Char.ofNat 67, Char.ofNat 117, Char.ofNat 116, Char.ofNat 115, Char.ofNat 32, Char.ofNat 115, Char.ofNat 116, Char.ofNat 114, Char.ofNat 97, Char.ofNat 116, Char.ofNat 117, Char.ofNat 109, Char.ofNat 47, Char.ofNat 115, Char.ofNat 116, Char.ofNat 114, Char.ofNat 97, Char.ofNat 116, Char.ofNat 117, Char.ofNat 109,
    Char.ofNat 108, Char.ofNat 97, Char.ofNat 119, Char.ofNat 49, Char.ofNat 48, Char.ofNat 46, Char.ofNat 68, Char.ofNat 105, Char.ofNat 115, Char.ofNat 107, Char.ofNat 68, Char.ofNat 111, Char.ofNat 101, Char.ofNat 115, Char.ofNat 32, Char.ofNat 115, Char.ofNat 116, Char.ofNat 114, Char.ofNat 97, Char.ofNat 116,
    Char.ofNat 117, Char.ofNat 109, Char.ofNat 47, Char.ofNat 115, Char.ofNat 116, Char.ofNat 114, Char.ofNat 97, Char.ofNat 116, Char.ofNat 117, Char.ofNat 109, Char.ofNat 108, Char.ofNat 97, Char.ofNat 119, Char.ofNat 49, Char.ofNat 48, Char.ofNat 46, Char.ofNat 68, Char.ofNat 105, Char.ofNat 115, Char.ofNat 107,
    Char.ofNat 72, Char.ofNat 97, Char.ofNat 108, Char.ofNat 116, Char.ofNat 115, Char.ofNat 32, Char.ofNat 115, Char.ofNat 116, Char.ofNat 114, Char.ofNat 97, Char.ofNat 116, Char.ofNat 117, Char.ofNat 109, Char.ofNat 47, Char.ofNat 115, Char.ofNat 116, Char.ofNat 114, Char.ofNat 97, Char.ofNat 116, Char.ofNat 117,
    Char.ofNat 109, Char.ofNat 108, Char.ofNat 97, Char.ofNat 119, Char.ofNat 48, Char.ofNat 55, Char.ofNat 46, Char.ofNat 67, Char.ofNat 111, Char.ofNat 100, Char.ofNat 101, Char.ofNat 69, Char.ofNat 110, Char.ofNat 99, Char.ofNat 111, Char.ofNat 100, Char.ofNat 101, Char.ofNat 115, Char.ofNat 32, Char.ofNat 115,
    Char.ofNat 116, Char.ofNat 114, Char.ofNat 97, Char.ofNat 116, Char.ofNat 117, Char.ofNat 109, Char.ofNat 47, Char.ofNat 115, Char.ofNat 116, Char.ofNat 114, Char.ofNat 97, Char.ofNat 116, Char.ofNat 117, Char.ofNat 109, Char.ofNat 108, Char.ofNat 97, Char.ofNat 119, Char.ofNat 48, Char.ofNat 55, Char.ofNat 46,
    Char.ofNat 67, Char.ofNat 111, Char.ofNat 100, Char.ofNat 101, Char.ofNat 77, Char.ofNat 97, Char.ofNat 107, Char.ofNat 101, Char.ofNat 115, Char.ofNat 32, Char.ofNat 115, Char.ofNat 116, Char.ofNat 114, Char.ofNat 97, Char.ofNat 116, Char.ofNat 117, Char.ofNat 109, Char.ofNat 47, Char.ofNat 115, Char.ofNat 116,
    Char.ofNat 114, Char.ofNat 97, Char.ofNat 116, Char.ofNat 117, Char.ofNat 109, Char.ofNat 108, Char.ofNat 97, Char.ofNat 119, Char.ofNat 48, Char.ofNat 55, Char.ofNat 46, Char.ofNat 67, Char.ofNat 111, Char.ofNat 100, Char.ofNat 101, Char.ofNat 68, Char.ofNat 101, Char.ofNat 99, Char.ofNat 111, Char.ofNat 100,
    Char.ofNat 101, Char.ofNat 115, Char.ofNat 32, Char.ofNat 115, Char.ofNat 116, Char.ofNat 114, Char.ofNat 97, Char.ofNat 116, Char.ofNat 117, Char.ofNat 109, Char.ofNat 47, Char.ofNat 115, Char.ofNat 116, Char.ofNat 114, Char.ofNat 97, Char.ofNat 116, Char.ofNat 117, Char.ofNat 109, Char.ofNat 108, Char.ofNat 97,
    Char.ofNat 119, Char.ofNat 48, Char.ofNat 55, Char.ofNat 46, Char.ofNat 67, Char.ofNat 111, Char.ofNat 100, Char.ofNat 101, Char.ofNat 79, Char.ofNat 110, Char.ofNat 108, Char.ofNat 121, Char.ofNat 32, Char.ofNat 115, Char.ofNat 116, Char.ofNat 114, Char.ofNat 97, Char.ofNat 116, Char.ofNat 117, Char.ofNat 109,
    Char.ofNat 47, Char.ofNat 115, Char.ofNat 116, Char.ofNat 114, Char.ofNat 97, Char.ofNat 116, Char.ofNat 117, Char.ofNat 109, Char.ofNat 108, Char.ofNat 97, Char.ofNat 119, Char.ofNat 48, Char.ofNat 55, Char.ofNat 46, Char.ofNat 67, Char.ofNat 111, Char.ofNat 100, Char.ofNat 101, Char.ofNat 65, Char.ofNat 112,
    Char.ofNat 97, Char.ofNat 114, Char.ofNat 116, Char.ofNat 32, Char.ofNat 115, Char.ofNat 116, Char.ofNat 114, Char.ofNat 97, Char.ofNat 116, Char.ofNat 117, Char.ofNat 109, Char.ofNat 47, Char.ofNat 115, Char.ofNat 116, Char.ofNat 114, Char.ofNat 97, Char.ofNat 116, Char.ofNat 117, Char.ofNat 109, Char.ofNat 108,
    Char.ofNat 97, Char.ofNat 119, Char.ofNat 48, Char.ofNat 55, Char.ofNat 46, Char.ofNat 67, Char.ofNat 111, Char.ofNat 100, Char.ofNat 101, Char.ofNat 76, Char.ofNat 111, Char.ofNat 110, Char.ofNat 103, Char.ofNat 32, Char.ofNat 115, Char.ofNat 116, Char.ofNat 114, Char.ofNat 97, Char.ofNat 116, Char.ofNat 117,
    Char.ofNat 109, Char.ofNat 47, Char.ofNat 115, Char.ofNat 116, Char.ofNat 114, Char.ofNat 97, Char.ofNat 116, Char.ofNat 117, Char.ofNat 109, Char.ofNat 108, Char.ofNat 97, Char.ofNat 119, Char.ofNat 49, Char.ofNat 54, Char.ofNat 46, Char.ofNat 77, Char.ofNat 115, Char.ofNat 103, Char.ofNat 69, Char.ofNat 110,
    Char.ofNat 99, Char.ofNat 111, Char.ofNat 100, Char.ofNat 101, Char.ofNat 115, Char.ofNat 32, Char.ofNat 115, Char.ofNat 116, Char.ofNat 114, Char.ofNat 97, Char.ofNat 116, Char.ofNat 117, Char.ofNat 109, Char.ofNat 47, Char.ofNat 115, Char.ofNat 116, Char.ofNat 114, Char.ofNat 97, Char.ofNat 116, Char.ofNat 117,
    Char.ofNat 109, Char.ofNat 108, Char.ofNat 97, Char.ofNat 119, Char.ofNat 49, Char.ofNat 54, Char.ofNat 46, Char.ofNat 77, Char.ofNat 115, Char.ofNat 103, Char.ofNat 68, Char.ofNat 101, Char.ofNat 99, Char.ofNat 111, Char.ofNat 100, Char.ofNat 101, Char.ofNat 115, Char.ofNat 32, Char.ofNat 115, Char.ofNat 116,
    Char.ofNat 114, Char.ofNat 97, Char.ofNat 116, Char.ofNat 117, Char.ofNat 109, Char.ofNat 47, Char.ofNat 115, Char.ofNat 116, Char.ofNat 114, Char.ofNat 97, Char.ofNat 116, Char.ofNat 117, Char.ofNat 109, Char.ofNat 108, Char.ofNat 97, Char.ofNat 119, Char.ofNat 49, Char.ofNat 54, Char.ofNat 46, Char.ofNat 77,
    Char.ofNat 115, Char.ofNat 103, Char.ofNat 66, Char.ofNat 97, Char.ofNat 99, Char.ofNat 107, Char.ofNat 32, Char.ofNat 115, Char.ofNat 116, Char.ofNat 114, Char.ofNat 97, Char.ofNat 116, Char.ofNat 117, Char.ofNat 109, Char.ofNat 47, Char.ofNat 115, Char.ofNat 116, Char.ofNat 114, Char.ofNat 97, Char.ofNat 116,
    Char.ofNat 117, Char.ofNat 109, Char.ofNat 108, Char.ofNat 97, Char.ofNat 119, Char.ofNat 49, Char.ofNat 54, Char.ofNat 46, Char.ofNat 77, Char.ofNat 115, Char.ofNat 103, Char.ofNat 79, Char.ofNat 110, Char.ofNat 108, Char.ofNat 121, Char.ofNat 32, Char.ofNat 115, Char.ofNat 116, Char.ofNat 114, Char.ofNat 97,
    Char.ofNat 116, Char.ofNat 117, Char.ofNat 109, Char.ofNat 47, Char.ofNat 115, Char.ofNat 116, Char.ofNat 114, Char.ofNat 97, Char.ofNat 116, Char.ofNat 117, Char.ofNat 109, Char.ofNat 108, Char.ofNat 97, Char.ofNat 119, Char.ofNat 49, Char.ofNat 54, Char.ofNat 46, Char.ofNat 77, Char.ofNat 115, Char.ofNat 103,
    Char.ofNat 65, Char.ofNat 112, Char.ofNat 97, Char.ofNat 114, Char.ofNat 116, Char.ofNat 32, Char.ofNat 115, Char.ofNat 116, Char.ofNat 114, Char.ofNat 97, Char.ofNat 116, Char.ofNat 117, Char.ofNat 109, Char.ofNat 47, Char.ofNat 115, Char.ofNat 116, Char.ofNat 114, Char.ofNat 97, Char.ofNat 116, Char.ofNat 117,
    Char.ofNat 109, Char.ofNat 108, Char.ofNat 97, Char.ofNat 119, Char.ofNat 49, Char.ofNat 54, Char.ofNat 46, Char.ofNat 77, Char.ofNat 115, Char.ofNat 103, Char.ofNat 75, Char.ofNat 105, Char.ofNat 110, Char.ofNat 100, Char.ofNat 115, Char.ofNat 32, Char.ofNat 115, Char.ofNat 116, Char.ofNat 114, Char.ofNat 97,
    Char.ofNat 116, Char.ofNat 117, Char.ofNat 109, Char.ofNat 47, Char.ofNat 115, Char.ofNat 116, Char.ofNat 114, Char.ofNat 97, Char.ofNat 116, Char.ofNat 117, Char.ofNat 109, Char.ofNat 108, Char.ofNat 97, Char.ofNat 119, Char.ofNat 49, Char.ofNat 49, Char.ofNat 46, Char.ofNat 87, Char.ofNat 97, Char.ofNat 108,
    Char.ofNat 82, Char.ofNat 111, Char.ofNat 111, Char.ofNat 109, Char.ofNat 32, Char.ofNat 115, Char.ofNat 116, Char.ofNat 114, Char.ofNat 97, Char.ofNat 116, Char.ofNat 117, Char.ofNat 109, Char.ofNat 47, Char.ofNat 115, Char.ofNat 116, Char.ofNat 114, Char.ofNat 97, Char.ofNat 116, Char.ofNat 117, Char.ofNat 109,
    Char.ofNat 108, Char.ofNat 97, Char.ofNat 119, Char.ofNat 49, Char.ofNat 49, Char.ofNat 46, Char.ofNat 87, Char.ofNat 97, Char.ofNat 108, Char.ofNat 70, Char.ofNat 114, Char.ofNat 111, Char.ofNat 110, Char.ofNat 116, Char.ofNat 115, Char.ofNat 32, Char.ofNat 115, Char.ofNat 116, Char.ofNat 114, Char.ofNat 97,
    Char.ofNat 116, Char.ofNat 117, Char.ofNat 109, Char.ofNat 47, Char.ofNat 115, Char.ofNat 116, Char.ofNat 114, Char.ofNat 97, Char.ofNat 116, Char.ofNat 117, Char.ofNat 109, Char.ofNat 108, Char.ofNat 97, Char.ofNat 119, Char.ofNat 49, Char.ofNat 49, Char.ofNat 46, Char.ofNat 87, Char.ofNat 97, Char.ofNat 108,
    Char.ofNat 76, Char.ofNat 97, Char.ofNat 115, Char.ofNat 116, Char.ofNat 115]
theorem order_is : Tryd.prog.initOrder = String.ofList (word0 ++ Char.ofNat 32 :: (word1 ++ Char.ofNat 32 :: (word2 ++ Char.ofNat 32 :: behind))) := by kernel_rfl
theorem order_words : wordsSigns Tryd.prog.initOrder.toList = word0 :: word1 :: word2 :: wordsSigns behind := by
  rw [order_is, String.toList_ofList, words_cut _ (by kernel_rfl), words_cut _ (by kernel_rfl), words_cut _ (by kernel_rfl)]
theorem order_behind : behindMainWord (wordsSigns Tryd.prog.initOrder.toList) = word2 :: wordsSigns behind := by rw [order_words]; kernel_rfl
theorem main_of {P : Program} {h s : List Char} {r : List (List Char)} (e : wordsSigns P.initOrder.toList = h :: s :: r) : P.mainIs = (if !isSumSigns s then none else if h == "harness".toList then some (true, s) else if h == "ownmain".toList then some (false, s) else none) := by unfold Program.mainIs; rw [e]
theorem make_of {P : Program} {c : List Char} {r : List (List Char)} (e : behindMainWord (wordsSigns P.initOrder.toList) = c :: r) (h1 : (c == "gc".toList || c == "spec".toList) = false) (h2 : (c == "cut".toList) = true) : P.make = some .cut := by
  unfold Program.make; rw [e]; simp only [h1, h2]; rfl
theorem may_of {P : Program} {c : List Char} {r : List (List Char)} (e : behindMainWord (wordsSigns P.initOrder.toList) = c :: r) (h : ((stripLifts liftWords (c :: r)).2.head? == some "cut".toList && ((stripLifts liftWords (c :: r)).1.contains "finals" || !P.laysLater) && ((stripLifts liftWords (c :: r)).1.contains "reflectrows" || !P.bearsReflect) && ((stripLifts liftWords (c :: r)).1.contains "reflectrows" || !(stripLifts liftWords (c :: r)).1.contains "leanrows") && P.doorFits (stripLifts liftWords (c :: r)).1) = true) : P.mayEnter = true := by
  unfold Program.mayEnter; rw [e]; simp only [h, Bool.or_true]
theorem strip_is : stripLifts liftWords (word2 :: wordsSigns behind) = ([], word2 :: wordsSigns behind) := by kernel_rfl
theorem order_may : Tryd.prog.mayEnter = true := may_of order_behind (by rw [strip_is]; kernel_rfl)
theorem order_final : Tryd.prog.liftsFinal = false := by unfold Program.liftsFinal Program.headLifts; rw [order_behind]; kernel_rfl
theorem order_make : Tryd.prog.make = some .cut := make_of order_behind (by kernel_rfl) (by kernel_rfl)
theorem sum_is : ("e2b871cb80d376d5ad911841bd9010a48b66507fb14a0af13b36f9c6414ed1b0" : String) = String.ofList word1 := by kernel_rfl
theorem order_main : Tryd.prog.mainIs = some (true, ("e2b871cb80d376d5ad911841bd9010a48b66507fb14a0af13b36f9c6414ed1b0" : String).toList) := by rw [sum_is, String.toList_ofList]; exact (main_of order_words).trans (by kernel_rfl)
theorem pin_may : Tryd.pinned.checked.prog.mayEnter = true := order_may
theorem pin_final : Tryd.pinned.checked.prog.liftsFinal = false := order_final
theorem pin_make : Tryd.pinned.checked.prog.make = some .cut := order_make
theorem pin_main : Tryd.pinned.checked.prog.mainIs = some (true, ("e2b871cb80d376d5ad911841bd9010a48b66507fb14a0af13b36f9c6414ed1b0" : String).toList) := order_main
theorem band {a b : Bool} (ha : a = true) (hb : b = true) : (a && b) = true := by rw [ha, hb]; rfl
end Go.Proofs.YtbbhjceelghadaaDoor.My
end

section
-- from K0
namespace Go.Proofs.YtbbhjceelghadaaDoor.K
open Go.RowKit Go.Proofs.YtbbhjceelghadaaDoorW.PrintWords Go.Proofs.YtbbhjceelghadaaDoorW.PrintLast Go.Proofs.YtbbhjceelghadaaDoorW.PrintMore
attribute [local go_sem] max2_int min2_int max_two min_two max_three min_three max_four min_four
set_option linter.unusedVariables false
set_option linter.unusedSimpArgs false
def errW : Option Int → Value
  | none => .nilIface
  | some c => .iface 0 (.int .i64 c)
theorem errW_none : errW none = .nilIface := rfl
theorem errW_some (c : Int) : errW (some c) = .iface 0 (.int .i64 c) := rfl
theorem info3 : (Tryd.prog.info? 3).map (fun i => (i.zero, i.size, i.bytes)) = some (some (.int .i64 0), 1, 8) := by kernel_rfl
theorem info5 : (Tryd.prog.info? 5).map (fun i => (i.zero, i.size, i.bytes)) = some (some (.int .u8 0), 1, 1) := by kernel_rfl
theorem info124 : (Tryd.prog.info? 124).map (fun i => (i.zero, i.size, i.bytes)) = some (some (.agg #[(.int .u32 0), (.slice none 0 0)]), 2, 32) := by kernel_rfl
theorem info132 : (Tryd.prog.info? 132).map (fun i => (i.zero, i.size, i.bytes)) = some (some (.agg #[(.int .i64 0), (.int .i64 0)]), 2, 16) := by kernel_rfl
structure S76 where
  f0 : (List Int)
  f1 : Int
def z76 : S76 := ⟨([] : List Int), (0 : Int)⟩
def k76 : Kd S76 := Kd.iso (Kd.pair (Kd.slice 3 (Kd.int .i64)) (Kd.int .i64)) (fun x : S76 => (x.f0, x.f1))
theorem k76_heap : Kd.Heap k76 := Kd.heap_iso _ (Kd.heap_pair (Kd.heap_slice 3 (Kd.heap_int .i64)) (Kd.heap_int .i64))
theorem k76_open {w : World} {x : S76} {cs : List Value} (h : k76.K w x cs) : ∃ A0 c0, cs = [.slice A0 x.f0.length c0, .int .i64 x.f1] ∧ x.f0.length ≤ c0 ∧ (Kd.int .i64).C w A0 x.f0.length x.f0 := by
  obtain ⟨_, _, rfl, ⟨A0, c0, rfl, l0, g0⟩, rfl⟩ := h
  exact ⟨A0, c0, rfl, l0, g0⟩
theorem k76_mkM (w : World) (base : Nat) (ok : Nat → Prop) (x : S76) {v0 : Value} (g0 : (Kd.int .i64).R 3 w base ok v0 x.f0) : k76.M w base ok x [v0, .int .i64 x.f1] := ⟨[v0], [.int .i64 x.f1], rfl, ⟨v0, rfl, g0⟩, rfl⟩
def rd_T76 (xs : List S76) (i : Int) : S76 := xs.getD i.toNat z76
theorem at_T76 {w : World} {A : Option Addr} {n : Nat} {xs : List S76} (h : Kd.C k76 w A n xs) (i : Int) (h0 : 0 ≤ i) (h1 : i < n) : ∃ ad A0 c0, A = some ad ∧ w.cell? (ad.add (i.toNat * 2)) = some (.slice A0 (rd_T76 xs i).f0.length c0) ∧ w.cell? ⟨(ad.add (i.toNat * 2)).block, (ad.add (i.toNat * 2)).off + 1, none⟩ = some (.int .i64 (rd_T76 xs i).f1) ∧ (rd_T76 xs i).f0.length ≤ c0 ∧ (Kd.int .i64).C w A0 (rd_T76 xs i).f0.length (rd_T76 xs i).f0 := by
  obtain ⟨ad, c, e, _, hK, hc0⟩ := Kd.C_get h z76 i h0 h1
  have hc : ∀ j u, c[j]? = some u → w.cell? (ad.add (i.toNat * 2 + j)) = some u := hc0
  obtain ⟨A0, c0, rfl, l0, g0⟩ := k76_open hK
  exact ⟨ad, A0, c0, e, hc 0 _ rfl, by rw [← add_field _ _ 1 (by omega)]; exact hc 1 _ rfl, l0, g0⟩
structure S124 where
  f0 : Int
  f1 : (List S76)
def z124 : S124 := ⟨(0 : Int), ([] : List S76)⟩
def k124 : Kd S124 := Kd.iso (Kd.pair (Kd.int .u32) (Kd.slice 76 k76)) (fun x : S124 => (x.f0, x.f1))
theorem k124_open {w : World} {x : S124} {cs : List Value} (h : k124.K w x cs) : ∃ A1 c1, cs = [.int .u32 x.f0, .slice A1 x.f1.length c1] ∧ x.f1.length ≤ c1 ∧ k76.C w A1 x.f1.length x.f1 := by
  obtain ⟨_, _, rfl, rfl, ⟨A1, c1, rfl, l1, g1⟩⟩ := h
  exact ⟨A1, c1, rfl, l1, g1⟩
theorem k124_mkM (w : World) (base : Nat) (ok : Nat → Prop) (x : S124) {v1 : Value} (g1 : k76.R 76 w base ok v1 x.f1) : k124.M w base ok x [.int .u32 x.f0, v1] := ⟨[.int .u32 x.f0], [v1], rfl, rfl, ⟨v1, rfl, g1⟩⟩
def rd_T124 (xs : List S124) (i : Int) : S124 := xs.getD i.toNat z124
theorem at_T124 {w : World} {A : Option Addr} {n : Nat} {xs : List S124} (h : Kd.C k124 w A n xs) (i : Int) (h0 : 0 ≤ i) (h1 : i < n) : ∃ ad A1 c1, A = some ad ∧ w.cell? (ad.add (i.toNat * 2)) = some (.int .u32 (rd_T124 xs i).f0) ∧ w.cell? ⟨(ad.add (i.toNat * 2)).block, (ad.add (i.toNat * 2)).off + 1, none⟩ = some (.slice A1 (rd_T124 xs i).f1.length c1) ∧ (rd_T124 xs i).f1.length ≤ c1 ∧ k76.C w A1 (rd_T124 xs i).f1.length (rd_T124 xs i).f1 := by
  obtain ⟨ad, c, e, _, hK, hc0⟩ := Kd.C_get h z124 i h0 h1
  have hc : ∀ j u, c[j]? = some u → w.cell? (ad.add (i.toNat * 2 + j)) = some u := hc0
  obtain ⟨A1, c1, rfl, l1, g1⟩ := k124_open hK
  exact ⟨ad, A1, c1, e, hc 0 _ rfl, by rw [← add_field _ _ 1 (by omega)]; exact hc 1 _ rfl, l1, g1⟩
structure S132 where
  f0 : Int
  f1 : Int
def z132 : S132 := ⟨(0 : Int), (0 : Int)⟩
def k132 : Kd S132 := Kd.iso (Kd.pair (Kd.int .i64) (Kd.int .i64)) (fun x : S132 => (x.f0, x.f1))
theorem k132_open {w : World} {x : S132} {cs : List Value} (h : k132.K w x cs) : cs = [.int .i64 x.f0, .int .i64 x.f1] := by
  obtain ⟨_, _, rfl, rfl, rfl⟩ := h
  exact rfl
theorem k132_mkM (w : World) (base : Nat) (ok : Nat → Prop) (x : S132)  : k132.M w base ok x [.int .i64 x.f0, .int .i64 x.f1] := ⟨[.int .i64 x.f0], [.int .i64 x.f1], rfl, rfl, rfl⟩
def rd_T132 (xs : List S132) (i : Int) : S132 := xs.getD i.toNat z132
theorem at_T132 {w : World} {A : Option Addr} {n : Nat} {xs : List S132} (h : Kd.C k132 w A n xs) (i : Int) (h0 : 0 ≤ i) (h1 : i < n) : ∃ ad , A = some ad ∧ w.cell? (ad.add (i.toNat * 2)) = some (.int .i64 (rd_T132 xs i).f0) ∧ w.cell? ⟨(ad.add (i.toNat * 2)).block, (ad.add (i.toNat * 2)).off + 1, none⟩ = some (.int .i64 (rd_T132 xs i).f1) := by
  obtain ⟨ad, c, e, _, hK, hc0⟩ := Kd.C_get h z132 i h0 h1
  have hc : ∀ j u, c[j]? = some u → w.cell? (ad.add (i.toNat * 2 + j)) = some u := hc0
  obtain rfl := k132_open hK
  exact ⟨ad, e, hc 0 _ rfl, by rw [← add_field _ _ 1 (by omega)]; exact hc 1 _ rfl⟩
end Go.Proofs.YtbbhjceelghadaaDoor.K
end

section
-- from K44
namespace Go.Proofs.YtbbhjceelghadaaDoor.K
open Go.RowKit Go.Proofs.YtbbhjceelghadaaDoorW.PrintWords Go.Proofs.YtbbhjceelghadaaDoorW.PrintLast Go.Proofs.YtbbhjceelghadaaDoorW.PrintMore
attribute [local go_sem] max2_int min2_int max_two min_two max_three min_three max_four min_four
set_option linter.unusedVariables false
set_option linter.unusedSimpArgs false
def stratumref07_SameInts.l0 : Nat → List Int → List Int → Int → Option (Bool)
  | 0, _, _, _ => none
  | k + 1, x0, x1, x5 => if x5 < (x0.length : Int) then (if 0 ≤ x5 then (if x5 < (x1.length : Int) then (if (rd x0 x5) = (rd x1 x5) then (stratumref07_SameInts.l0 k x0 x1 (wrap64 (x5 + 1))) else (some false)) else (none)) else (none)) else (some true)
def stratumref07_SameInts.f (k : Nat) (l0 : List Int) (l1 : List Int) : Option (Bool) := if (l0.length : Int) = (l1.length : Int) then (stratumref07_SameInts.l0 k l0 l1 0) else (some false)
theorem stratumref07_SameInts.mono_l : ∀ k, (∀ y0 y1 y2, LeO (stratumref07_SameInts.l0 k y0 y1 y2) (stratumref07_SameInts.l0 (k + 1) y0 y1 y2))
  | 0 => fun _ _ _ r h => by simp [stratumref07_SameInts.l0] at h
  | k + 1 => by
    have ih0 := stratumref07_SameInts.mono_l k
    · intro y0 y1 y2
      unfold stratumref07_SameInts.l0
      repeat' first
      | (with_reducible exact ih0 _ _ _)
      | (with_reducible exact LeO.refl _)
      | (with_reducible exact LeO.none _)
      | (with_reducible refine LeO.ite ?_ ?_)
      | (with_reducible refine LeO.bind ?_ (fun _ => ?_))
      | exact ih0 _ _ _
      | exact LeO.none _
      | refine LeO.ite ?_ ?_
      | refine LeO.bind ?_ (fun _ => ?_)
theorem stratumref07_SameInts.mono : ∀ a0 a1 k, LeO (stratumref07_SameInts.f k a0 a1) (stratumref07_SameInts.f (k + 1) a0 a1) := by
  intro a0 a1 k
  have ih0 := stratumref07_SameInts.mono_l k
  unfold stratumref07_SameInts.f
  repeat' first
      | (with_reducible exact ih0 _ _ _)
      | (with_reducible exact LeO.refl _)
      | (with_reducible exact LeO.none _)
      | (with_reducible refine LeO.ite ?_ ?_)
      | (with_reducible refine LeO.bind ?_ (fun _ => ?_))
      | exact ih0 _ _ _
      | exact LeO.none _
      | refine LeO.ite ?_ ?_
      | refine LeO.bind ?_ (fun _ => ?_)
set_option maxHeartbeats 8000000 in
set_option maxRecDepth 100000 in
theorem stratumref07_SameInts.calls (k : Nat) (A0 : Option Addr) (c0 : Nat) (l0 : List Int) (A1 : Option Addr) (c1 : Nat) (l1 : List Int) (r : Bool) (w : World) (hr0 : Kd.C (Kd.int .i64) w A0 l0.length l0) (hc0 : l0.length ≤ c0) (hr1 : Kd.C (Kd.int .i64) w A1 l1.length l1) (hc1 : l1.length ≤ c1) (h : stratumref07_SameInts.f k l0 l1 = some r) :
    Calls Tryd.prog 58 #[.slice A0 l0.length c0, .slice A1 l1.length c1] w fun e w' => e = .returned (.bool r) ∧ Drawn0 w w' := by
  have HR0 := Aside0.mk hr0
  have HC0 := Aside0.mk hc0
  clear hr0 hc0
  have HR1 := Aside0.mk hr1
  have HC1 := Aside0.mk hc1
  clear hr1 hc1
  have H : (if (l0.length : Int) = (l1.length : Int) then (stratumref07_SameInts.l0 k l0 l1 0) else (some false)) = some r := h
  clear h
  by_cases c3 : (l0.length : Int) = (l1.length : Int)
  · rw [if_pos c3] at H
    have c3b0 : ((l0.length : Int) == (l1.length : Int)) = true := beq_iff_eq.mpr c3
    have c3b1 : ((l0.length : Int) != (l1.length : Int)) = false := bne_eq_false_iff_eq.mpr c3
    have c3b2 : (l0.length == l1.length) = true := by first | simpa using c3 | (simp at c3 ⊢; omega)
    clear c3
    have H' := Aside0.mk H
    clear H
    go_enter Tryd.func58, Tryd.ntmps58
    go_wp2
    repeat (go_quiet (fail); try go_wp2)
    go_loopg [5] k (fun kq v5 w' => ∃ (x5_1 : Int), v5 = .int .i64 x5_1 ∧ Aside0 (stratumref07_SameInts.l0 kq l0 l1 x5_1 = some r) ∧ Aside0 (kq ≤ k) ∧ Drawn0 w w')
    case atStart => exact ⟨(0), (by first | rfl | (simp; done) | (simp [*]; done)), H', ⟨Nat.le_refl _⟩, by repeat (first | exact Drawn0.refl _ | apply Drawn0.step)⟩
    case round =>
      clear H'
      try clear c1
      try clear p2
      try clear c3
      try clear c3b0
      try clear c3b1
      try clear c3b2
      obtain ⟨x5_1, rfl, HA, HK1, ⟨m1, rfl⟩⟩ := hrel
      cases gk with
      | zero => exact absurd HA.out (by simp [stratumref07_SameInts.l0])
      | succ k1 =>
        have H := HA.out
        clear HA
        simp only [stratumref07_SameInts.l0] at H
        by_cases c4 : x5_1 < (l0.length : Int)
        · rw [if_pos c4] at H
          have c4b0 : decide (x5_1 < (l0.length : Int)) = true := decide_eq_true c4
          clear c4
          by_cases c5 : 0 ≤ x5_1
          · rw [if_pos c5] at H
            have c5b0 : decide (0 ≤ x5_1) = true := decide_eq_true c5
            clear c5
            by_cases c6 : x5_1 < (l1.length : Int)
            · rw [if_pos c6] at H
              have c6b0 : decide (x5_1 < (l1.length : Int)) = true := decide_eq_true c6
              clear c6
              by_cases c7 : (rd l0 x5_1) = (rd l1 x5_1)
              · rw [if_pos c7] at H
                have c7b0 : ((rd l0 x5_1) == (rd l1 x5_1)) = true := beq_iff_eq.mpr c7
                have c7b1 : ((rd l0 x5_1) != (rd l1 x5_1)) = false := bne_eq_false_iff_eq.mpr c7
                clear c7
                have H' := Aside0.mk H
                clear H
                have p208 : 0 ≤ (x5_1 : Int) := of_decide_eq_true (by first | (with_reducible assumption) | assumption)
                have q208 : x5_1 < (l0.length : Int) := of_decide_eq_true (by first | (with_reducible assumption) | assumption)
                obtain ⟨ad208, e208, hx208_0⟩ := Kd.at_int HR0.out x5_1 p208 q208
                cases e208
                replace p208 := eq_true p208
                replace q208 := eq_true q208
                have p209 : 0 ≤ (x5_1 : Int) := of_decide_eq_true (by first | (with_reducible assumption) | assumption)
                have q209 : x5_1 < (l1.length : Int) := of_decide_eq_true (by first | (with_reducible assumption) | assumption)
                obtain ⟨ad209, e209, hx209_0⟩ := Kd.at_int HR1.out x5_1 p209 q209
                cases e209
                replace p209 := eq_true p209
                replace q209 := eq_true q209
                go_wp2
                repeat (go_quiet (fail); try go_wp2)
                go_roundg k1
                case measure => have := HK1.out; omega
                case rel => exact ⟨(wrap64 (x5_1 + 1)), (by first | rfl | (simp; done) | (simp [*]; done)), H', ⟨by have := HK1.out; omega⟩, by repeat (first | exact Drawn0.refl _ | apply Drawn0.step)⟩
              · rw [if_neg c7] at H
                have c7b0 : ((rd l0 x5_1) == (rd l1 x5_1)) = false := beq_eq_false_iff_ne.mpr c7
                have c7b1 : ((rd l0 x5_1) != (rd l1 x5_1)) = true := bne_iff_ne.mpr c7
                obtain rfl := Option.some.inj H
                have p208 : 0 ≤ (x5_1 : Int) := of_decide_eq_true (by first | (with_reducible assumption) | assumption)
                have q208 : x5_1 < (l0.length : Int) := of_decide_eq_true (by first | (with_reducible assumption) | assumption)
                obtain ⟨ad208, e208, hx208_0⟩ := Kd.at_int HR0.out x5_1 p208 q208
                cases e208
                replace p208 := eq_true p208
                replace q208 := eq_true q208
                have p209 : 0 ≤ (x5_1 : Int) := of_decide_eq_true (by first | (with_reducible assumption) | assumption)
                have q209 : x5_1 < (l1.length : Int) := of_decide_eq_true (by first | (with_reducible assumption) | assumption)
                obtain ⟨ad209, e209, hx209_0⟩ := Kd.at_int HR1.out x5_1 p209 q209
                cases e209
                replace p209 := eq_true p209
                replace q209 := eq_true q209
                go_wp2
                repeat (go_quiet (fail); try go_wp2)
                go_ret
                exact ⟨by first | rfl | (simp; done) | (simp [*]; done), by repeat (first | exact Drawn0.refl _ | apply Drawn0.step)⟩
            · rw [if_neg c6] at H
              exact absurd H (by simp)
          · rw [if_neg c5] at H
            exact absurd H (by simp)
        · rw [if_neg c4] at H
          have c4b0 : decide (x5_1 < (l0.length : Int)) = false := decide_eq_false c4
          clear c4
          obtain rfl := Option.some.inj H
          go_wp2
          repeat (go_quiet (fail); try go_wp2)
          go_ret
          exact ⟨by first | rfl | (simp; done) | (simp [*]; done), by repeat (first | exact Drawn0.refl _ | apply Drawn0.step)⟩
  · rw [if_neg c3] at H
    have c3b0 : ((l0.length : Int) == (l1.length : Int)) = false := beq_eq_false_iff_ne.mpr c3
    have c3b1 : ((l0.length : Int) != (l1.length : Int)) = true := bne_iff_ne.mpr c3
    have c3b2 : (l0.length == l1.length) = false := by first | simpa using c3 | (simp at c3 ⊢; omega)
    obtain rfl := Option.some.inj H
    go_enter Tryd.func58, Tryd.ntmps58
    go_wp2
    repeat (go_quiet (fail); try go_wp2)
    go_ret
    exact ⟨by first | rfl | (simp; done) | (simp [*]; done), by repeat (first | exact Drawn0.refl _ | apply Drawn0.step)⟩
end Go.Proofs.YtbbhjceelghadaaDoor.K
end

section
-- from K39
namespace Go.Proofs.YtbbhjceelghadaaDoor.K
open Go.RowKit Go.Proofs.YtbbhjceelghadaaDoorW.PrintWords Go.Proofs.YtbbhjceelghadaaDoorW.PrintLast Go.Proofs.YtbbhjceelghadaaDoorW.PrintMore
attribute [local go_sem] max2_int min2_int max_two min_two max_three min_three max_four min_four
set_option linter.unusedVariables false
set_option linter.unusedSimpArgs false
def stratumref07_Put.l0 : Nat → List Int → Int → Int → Option (List Int)
  | 0, _, _, _ => none
  | k + 1, x0, x1, x7 => if x7 ≥ 0 then (if 0 ≤ (IntKind.u64.wrap (8 * (IntKind.u64.wrap (x7)))) then (if x0.length < 140737488355328 then (stratumref07_Put.l0 k (x0 ++ [(shr .u64 x1 (IntKind.u64.wrap (8 * (IntKind.u64.wrap (x7))))) % 256]) x1 (wrap64 (x7 - 1))) else (none)) else (none)) else (some x0)
def stratumref07_Put.f (k : Nat) (l0 : List Int) (a1 : Int) (a2 : Int) : Option (List Int) := stratumref07_Put.l0 k l0 a1 (wrap64 (a2 - 1))
theorem stratumref07_Put.mono_l : ∀ k, (∀ y0 y1 y2, LeO (stratumref07_Put.l0 k y0 y1 y2) (stratumref07_Put.l0 (k + 1) y0 y1 y2))
  | 0 => fun _ _ _ r h => by simp [stratumref07_Put.l0] at h
  | k + 1 => by
    have ih0 := stratumref07_Put.mono_l k
    · intro y0 y1 y2
      unfold stratumref07_Put.l0
      repeat' first
      | (with_reducible exact ih0 _ _ _)
      | (with_reducible exact LeO.refl _)
      | (with_reducible exact LeO.none _)
      | (with_reducible refine LeO.ite ?_ ?_)
      | (with_reducible refine LeO.bind ?_ (fun _ => ?_))
      | exact ih0 _ _ _
      | exact LeO.none _
      | refine LeO.ite ?_ ?_
      | refine LeO.bind ?_ (fun _ => ?_)
theorem stratumref07_Put.mono : ∀ a0 a1 a2 k, LeO (stratumref07_Put.f k a0 a1 a2) (stratumref07_Put.f (k + 1) a0 a1 a2) := by
  intro a0 a1 a2 k
  have ih0 := stratumref07_Put.mono_l k
  unfold stratumref07_Put.f
  repeat' first
      | (with_reducible exact ih0 _ _ _)
      | (with_reducible exact LeO.refl _)
      | (with_reducible exact LeO.none _)
      | (with_reducible refine LeO.ite ?_ ?_)
      | (with_reducible refine LeO.bind ?_ (fun _ => ?_))
      | exact ih0 _ _ _
      | exact LeO.none _
      | refine LeO.ite ?_ ?_
      | refine LeO.bind ?_ (fun _ => ?_)
set_option maxHeartbeats 8000000 in
set_option maxRecDepth 100000 in
theorem stratumref07_Put.calls (k : Nat) (P0_ : Nat → Prop) (u9000_ : Value) (l0 : List Int) (a1 : Int) (a2 : Int) (r : List Int) (w0 w : World) (hB : Below w0.heap.size w0 w) (ho0 : Kd.R (Kd.int .u8) 5 w w0.heap.size P0_ u9000_ l0) (h : stratumref07_Put.f k l0 a1 a2 = some r) :
    Calls Tryd.prog 86 #[u9000_, .int .u64 a1, .int .i64 a2] w fun e w' => ∃ v0_ : Value, e = .returned (v0_) ∧ Kd.R (Kd.int .u8) 5 w' w0.heap.size (fun k_ => (P0_ k_ ∨ w.heap.size ≤ k_)) v0_ r ∧ Below w0.heap.size w0 w' ∧ Kept w w' (fun k_ => P0_ k_) := by
  have HO0 := Aside0.mk (show Kd.R (Kd.int .u8) 5 w w0.heap.size (fun k_ => (P0_ k_ ∨ w.heap.size ≤ k_)) u9000_ l0 from Kd.R_mono ho0 (fun k_ hk => (.inl hk)))
  have HK := Aside0.mk (Kept.refl w (fun k_ => P0_ k_))
  have HW0 := Aside0.mk hB.size
  have HB := Aside0.mk hB
  clear hB
  have H : (stratumref07_Put.l0 k l0 a1 (wrap64 (a2 - 1))) = some r := h
  clear h
  have H' := Aside0.mk H
  clear H
  go_enter Tryd.func86, Tryd.ntmps86
  go_wp2
  go_loopg [0, 7] k (fun kq v0 v7 w' => ∃ (x0_1 : List Int) (x7_1 : Int), v7 = .int .i64 x7_1 ∧ Aside0 (stratumref07_Put.l0 kq x0_1 a1 x7_1 = some r) ∧ Aside0 (kq ≤ k) ∧ Aside0 (Kd.R (Kd.int .u8) 5 w' w0.heap.size (fun k_ => (P0_ k_ ∨ w.heap.size ≤ k_)) v0 x0_1) ∧ Aside0 (Kept w w' (fun k_ => P0_ k_)) ∧ Aside0 (Below w0.heap.size w0 w'))
  case atStart => exact ⟨(l0), (wrap64 (a2 - 1)), (by first | rfl | (simp; done) | (simp [*]; done)), H', ⟨Nat.le_refl _⟩, ⟨by (with_reducible repeat (first | apply Kd.R_alloc | apply Kd.R_drewN | apply Kd.R_drew)); exact HO0.out⟩, ⟨by repeat (first | (with_reducible first | exact HK.out | apply Kept.alloc | apply Kept.drewN | apply Kept.drew) | exact HK.out)⟩, ⟨by repeat (first | (with_reducible first | exact HB.out | apply below_alloc | apply pw_below_drewN | apply below_drew1) | exact HB.out)⟩⟩
  case round =>
    clear H'
    try clear p2
    obtain ⟨x0_1, x7_1, rfl, HA, HK1, HO_0, HK, HB⟩ := hrel
    cases gk with
    | zero => exact absurd HA.out (by simp [stratumref07_Put.l0])
    | succ k1 =>
      have H := HA.out
      clear HA
      simp only [stratumref07_Put.l0] at H
      by_cases c4 : x7_1 ≥ 0
      · rw [if_pos c4] at H
        have c4b0 : decide (0 ≤ x7_1) = true := decide_eq_true c4
        clear c4
        obtain ⟨ji5, hji5⟩ : ∃ j_ : Int, (IntKind.u64.wrap (8 * (IntKind.u64.wrap (x7_1)))) = j_ := ⟨_, rfl⟩
        replace H : (if 0 ≤ (ji5) then (if x0_1.length < 140737488355328 then (stratumref07_Put.l0 k1 (x0_1 ++ [(shr .u64 a1 (ji5)) % 256]) a1 (wrap64 (x7_1 - 1))) else (none)) else (none)) = some r := by first | (rw [hji5] at H; exact H) | (simp only [hji5] at H ⊢; exact H)
        by_cases c6 : 0 ≤ (ji5)
        · rw [if_pos c6] at H
          have c6b0 := eq_true c6
          have c6b1 : decide (0 ≤ (ji5)) = true := decide_eq_true c6
          clear c6
          obtain ⟨ji7, hji7⟩ : ∃ j_ : Int, (shr .u64 a1 (ji5)) = j_ := ⟨_, rfl⟩
          replace H : (if x0_1.length < 140737488355328 then (stratumref07_Put.l0 k1 (x0_1 ++ [(ji7) % 256]) a1 (wrap64 (x7_1 - 1))) else (none)) = some r := by first | (rw [hji7] at H; exact H) | (simp only [hji7] at H ⊢; exact H)
          have hji7_ : (a1 / 2 ^ min (ji5).toNat 64) = ji7 := hji7
          have hji7z : (ji5) ≤ 64 → (a1 / 2 ^ (ji5).toNat) = ji7 := shr_small hji7
          by_cases c8 : x0_1.length < 140737488355328
          · rw [if_pos c8] at H
            have LMc8 := Aside0.mk c8
            clear c8
            obtain ⟨y146, hy146⟩ : ∃ y_ : List Int, y_ = (x0_1 ++ [(ji7) % 256]) := ⟨_, rfl⟩
            replace H : (stratumref07_Put.l0 k1 y146 a1 (wrap64 (x7_1 - 1))) = some r := by first | (rw [hy146]; with_reducible exact H) | (have H2_ := (Option.bind_some _ _).symm.trans H; rw [hy146]; with_reducible exact H2_) | (have H2_ := (Option.bind_some _ _).symm.trans H; with_reducible exact H2_) | with_reducible exact H | (rw [hy146]; exact H) | exact H
            have Ny146 := Aside0.mk hy146
            clear hy146
            have H' := Aside0.mk H
            clear H
            go_wp2_with (first | ((with_reducible refine gate_builtin (b := .append) (xs := #[.tmp 14, .tmp 21]) rfl ?_); at_builtin; refine Kd.R_append (Kd.int .u8) (w0 := w0) w0.heap.size rfl (.tmp 14) (.tmp 21) 23 5 (.int .u8 0) 1 rfl Tryd.underlying23 info5 rfl (by decide) (by omega) u0 x0_1 ((ji7) % 256) [.int .u8 ((ji7) % 256)] (fun k_ => (P0_ k_ ∨ w.heap.size ≤ k_)) (fun _ => False) rfl rfl ?aP (fun _ hk => hk.elim) ?aF ?aO ?aB ?aS ?aL ?_; (case aP => exact rfl); (case aB => exact (by repeat (first | (with_reducible first | exact HB.out | apply below_alloc | apply pw_below_drewN | apply below_drew1) | exact HB.out))); (case aF => exact (fun k_ hk => (.inr (Nat.le_trans (by first | exact HK.out.1 | exact (show Kept w _ (fun k_ => P0_ k_) from by repeat (first | (with_reducible first | exact HK.out | apply Kept.alloc | apply Kept.drewN | apply Kept.drew) | exact HK.out)).1) hk)))); (case aO => exact (by (with_reducible repeat (first | apply Kd.R_alloc | apply Kd.R_drewN | apply Kd.R_drew)); exact HO_0.out)); (case aS => exact (below_size (by repeat (first | (with_reducible first | exact HB.out | apply below_alloc | apply pw_below_drewN | apply below_drew1) | exact HB.out)))); (case aL => have := LMc8.out; omega); intro v147 w9 ho hb hg hat; rw [← Ny146.out] at ho; have n0_ := Aside0.mk (hb); have n1_ := Aside0.mk (Kept.of_grown (S := (fun k_ => P0_ k_)) hg (by repeat (first | (with_reducible first | exact HK.out | apply Kept.alloc | apply Kept.drewN | apply Kept.drew) | exact HK.out)) (fun k_ e_ => (HO_0.out.1 k_ e_))); have n2_ := Aside0.mk (ho); clear HB; clear HK; clear HO_0; have HB := n0_; have HK := n1_; have HO148 := n2_; clear n0_ n1_ n2_; clear ho hb hg hat))
            go_roundg k1
            case measure => have := HK1.out; omega
            case rel => exact ⟨(y146), (wrap64 (x7_1 - 1)), (by first | rfl | (simp; done) | (simp [*]; done)), H', ⟨by have := HK1.out; omega⟩, ⟨by (with_reducible repeat (first | apply Kd.R_alloc | apply Kd.R_drewN | apply Kd.R_drew)); exact HO148.out⟩, ⟨by repeat (first | (with_reducible first | exact HK.out | apply Kept.alloc | apply Kept.drewN | apply Kept.drew) | exact HK.out)⟩, ⟨by repeat (first | (with_reducible first | exact HB.out | apply below_alloc | apply pw_below_drewN | apply below_drew1) | exact HB.out)⟩⟩
          · rw [if_neg c8] at H
            exact absurd H (by simp)
        · rw [if_neg c6] at H
          exact absurd H (by simp)
      · rw [if_neg c4] at H
        have c4b0 : decide (0 ≤ x7_1) = false := decide_eq_false c4
        clear c4
        obtain rfl := Option.some.inj H
        go_wp2
        go_ret
        exact ⟨_, by first | rfl | (simp [errW_none, errW_some] <;> rfl) | (simp [*, errW_none, errW_some] <;> rfl), by (with_reducible repeat (first | apply Kd.R_alloc | apply Kd.R_drewN | apply Kd.R_drew)); exact HO_0.out, by repeat (first | (with_reducible first | exact HB.out | apply below_alloc | apply pw_below_drewN | apply below_drew1) | exact HB.out), by repeat (first | (with_reducible first | exact HK.out | apply Kept.alloc | apply Kept.drewN | apply Kept.drew) | exact HK.out)⟩
end Go.Proofs.YtbbhjceelghadaaDoor.K
end

section
-- from K41
namespace Go.Proofs.YtbbhjceelghadaaDoor.K
open Go.RowKit Go.Proofs.YtbbhjceelghadaaDoorW.PrintWords Go.Proofs.YtbbhjceelghadaaDoorW.PrintLast Go.Proofs.YtbbhjceelghadaaDoorW.PrintMore
attribute [local go_sem] max2_int min2_int max_two min_two max_three min_three max_four min_four
set_option linter.unusedVariables false
set_option linter.unusedSimpArgs false
mutual
def stratumref07_Facts.l0 : Nat → List Int → List (S76) → Int → Option (List Int)
  | 0, _, _, _ => none
  | k + 1, x0, x1, x5 => if x5 < (x1.length : Int) then (if 0 ≤ x5 then ((stratumref07_Put.f k x0 (IntKind.u64.wrap ((((rd_T76 x1 x5).f0).length : Int))) 1).bind fun t160 => (stratumref07_Facts.l1 k t160 x1 x5 0)) else (none)) else (some x0)
def stratumref07_Facts.l1 : Nat → List Int → List (S76) → Int → Int → Option (List Int)
  | 0, _, _, _, _ => none
  | k + 1, x0, x1, x5, x6 => if 0 ≤ x5 then (if x5 < (x1.length : Int) then (if x6 < (((rd_T76 x1 x5).f0).length : Int) then (if 0 ≤ x6 then ((stratumref07_Put.f k x0 (IntKind.u64.wrap (rd ((rd_T76 x1 x5).f0) x6)) 4).bind fun t166 => (stratumref07_Facts.l1 k t166 x1 x5 (wrap64 (x6 + 1)))) else (none)) else ((stratumref07_Put.f k x0 (IntKind.u64.wrap ((rd_T76 x1 x5).f1)) 8).bind fun t170 => (stratumref07_Facts.l0 k t170 x1 (wrap64 (x5 + 1))))) else (none)) else (none)
end
def stratumref07_Facts.f (k : Nat) (l0 : List Int) (l1 : List (S76)) : Option (List Int) := (stratumref07_Put.f k l0 (IntKind.u64.wrap ((l1.length : Int))) 4).bind fun t156 => (stratumref07_Facts.l0 k t156 l1 0)
theorem stratumref07_Facts.mono_l : ∀ k, (∀ y0 y1 y2, LeO (stratumref07_Facts.l0 k y0 y1 y2) (stratumref07_Facts.l0 (k + 1) y0 y1 y2)) ∧ (∀ y0 y1 y2 y3, LeO (stratumref07_Facts.l1 k y0 y1 y2 y3) (stratumref07_Facts.l1 (k + 1) y0 y1 y2 y3))
  | 0 => ⟨fun _ _ _ r h => by simp [stratumref07_Facts.l0] at h, fun _ _ _ _ r h => by simp [stratumref07_Facts.l1] at h⟩
  | k + 1 => by
    obtain ⟨ih0, ih1⟩ := stratumref07_Facts.mono_l k
    refine ⟨?_, ?_⟩
    · intro y0 y1 y2
      unfold stratumref07_Facts.l0
      repeat' first
      | (with_reducible exact ih0 _ _ _)
      | (with_reducible exact ih1 _ _ _ _)
      | (with_reducible exact stratumref07_Put.mono _ _ _ _)
      | (with_reducible exact LeO.refl _)
      | (with_reducible exact LeO.none _)
      | (with_reducible refine LeO.ite ?_ ?_)
      | (with_reducible refine LeO.bind ?_ (fun _ => ?_))
      | exact ih0 _ _ _
      | exact ih1 _ _ _ _
      | exact stratumref07_Put.mono _ _ _ _
      | exact LeO.none _
      | refine LeO.ite ?_ ?_
      | refine LeO.bind ?_ (fun _ => ?_)
    · intro y0 y1 y2 y3
      unfold stratumref07_Facts.l1
      repeat' first
      | (with_reducible exact ih0 _ _ _)
      | (with_reducible exact ih1 _ _ _ _)
      | (with_reducible exact stratumref07_Put.mono _ _ _ _)
      | (with_reducible exact LeO.refl _)
      | (with_reducible exact LeO.none _)
      | (with_reducible refine LeO.ite ?_ ?_)
      | (with_reducible refine LeO.bind ?_ (fun _ => ?_))
      | exact ih0 _ _ _
      | exact ih1 _ _ _ _
      | exact stratumref07_Put.mono _ _ _ _
      | exact LeO.none _
      | refine LeO.ite ?_ ?_
      | refine LeO.bind ?_ (fun _ => ?_)
theorem stratumref07_Facts.mono : ∀ a0 a1 k, LeO (stratumref07_Facts.f k a0 a1) (stratumref07_Facts.f (k + 1) a0 a1) := by
  intro a0 a1 k
  obtain ⟨ih0, ih1⟩ := stratumref07_Facts.mono_l k
  unfold stratumref07_Facts.f
  repeat' first
      | (with_reducible exact ih0 _ _ _)
      | (with_reducible exact ih1 _ _ _ _)
      | (with_reducible exact stratumref07_Put.mono _ _ _ _)
      | (with_reducible exact LeO.refl _)
      | (with_reducible exact LeO.none _)
      | (with_reducible refine LeO.ite ?_ ?_)
      | (with_reducible refine LeO.bind ?_ (fun _ => ?_))
      | exact ih0 _ _ _
      | exact ih1 _ _ _ _
      | exact stratumref07_Put.mono _ _ _ _
      | exact LeO.none _
      | refine LeO.ite ?_ ?_
      | refine LeO.bind ?_ (fun _ => ?_)
set_option maxHeartbeats 8000000 in
set_option maxRecDepth 100000 in
theorem stratumref07_Facts.calls (k : Nat) (P0_ : Nat → Prop) (u9000_ : Value) (l0 : List Int) (A1 : Option Addr) (c1 : Nat) (l1 : List (S76)) (r : List Int) (w0 w : World) (hB : Below w0.heap.size w0 w) (ho0 : Kd.R (Kd.int .u8) 5 w w0.heap.size P0_ u9000_ l0) (hr1 : ∀ W_, Kept w W_ (fun k_ => P0_ k_) → Kd.C k76 W_ A1 l1.length l1) (hc1 : l1.length ≤ c1) (h : stratumref07_Facts.f k l0 l1 = some r) :
    Calls Tryd.prog 88 #[u9000_, .slice A1 l1.length c1] w fun e w' => ∃ v0_ : Value, e = .returned (v0_) ∧ Kd.R (Kd.int .u8) 5 w' w0.heap.size (fun k_ => (P0_ k_ ∨ w.heap.size ≤ k_)) v0_ r ∧ Below w0.heap.size w0 w' ∧ Kept w w' (fun k_ => P0_ k_) := by
  have HO0 := Aside0.mk (show Kd.R (Kd.int .u8) 5 w w0.heap.size (fun k_ => (P0_ k_ ∨ w.heap.size ≤ k_)) u9000_ l0 from Kd.R_mono ho0 (fun k_ hk => (.inl hk)))
  have HR1 := Aside0.mk hr1
  have HC1 := Aside0.mk hc1
  clear hr1 hc1
  have HK := Aside0.mk (Kept.refl w (fun k_ => P0_ k_))
  have HW0 := Aside0.mk hB.size
  have HB := Aside0.mk hB
  clear hB
  have H : ((stratumref07_Put.f k l0 (IntKind.u64.wrap ((l1.length : Int))) 4).bind fun t156 => (stratumref07_Facts.l0 k t156 l1 0)) = some r := h
  clear h
  replace H := Option.bind_eq_some_iff.mp H
  obtain ⟨t156, A30, H⟩ := H
  replace H : (stratumref07_Facts.l0 k t156 l1 0) = some r := H
  have A3 := Aside0.mk A30
  clear A30
  have H' := Aside0.mk H
  clear H
  obtain ⟨Ao4, co4, eo4⟩ := Kd.R_slice HO0.out
  subst eo4
  go_enter Tryd.func88, Tryd.ntmps88
  go_wp2_with (first | ((with_reducible refine gate_callee (f := 86) rfl ?_); refine goesL_ (some 11) rfl rfl Tryd.func86 (by kernel_rfl) rfl #[.slice Ao4 l0.length co4, .int .u64 (IntKind.u64.wrap ((l1.length : Int))), .int .i64 4] rfl (by (try simp only [List.map_toArray, List.map_cons, List.map_nil]); first | done | rfl | (simp only [List.length_drop, List.length_take]; rfl)) ?_; (with_reducible refine (stratumref07_Put.calls k (fun k_ => some k_ = (.slice Ao4 l0.length co4 : Value).ownBlock) (.slice Ao4 l0.length co4) l0 (IntKind.u64.wrap ((l1.length : Int))) 4 t156 w0 _ ?side1 ?side2 A3.out).mono ?_); (case side1 => repeat (first | (with_reducible first | exact HB.out | apply below_alloc | apply pw_below_drewN | apply below_drew1) | exact HB.out)); (case side2 => exact Kd.R_tight rfl HO0.out); rintro e w5 ⟨v157, rfl, ho0, hb, hkp⟩; refine ⟨_, rfl, ?_⟩; have n0_ := Aside0.mk (Kd.R_mono (ok' := fun k_ => (P0_ k_ ∨ w.heap.size ≤ k_)) ho0 (fun k_ hk_ => Or.elim hk_ (fun hs_ => (HO0.out.1 k_ (hs_).symm)) (fun hn_ => (.inr (Nat.le_trans (by first | exact HK.out.1 | exact (show Kept w _ (fun k_ => P0_ k_) from by repeat (first | (with_reducible first | exact HK.out | apply Kept.alloc | apply Kept.drewN | apply Kept.drew) | exact HK.out)).1) hn_))))); have n1_ := Aside0.mk (Kept.then_ (S := (fun k_ => P0_ k_)) (by repeat (first | (with_reducible first | exact HK.out | apply Kept.alloc | apply Kept.drewN | apply Kept.drew) | exact HK.out)) hkp (fun k_ hs_ => (fun e_ => (HO0.out.1 k_ e_.symm)) hs_)); have n2_ := Aside0.mk (hb); clear HK; clear HB; clear HO0; have HO158 := n0_; have HK := n1_; have HB := n2_; clear n0_ n1_ n2_; (try clear hb); (try clear hkp); (try clear ho0)))
  go_loopg [0, 5] k (fun kq v0 v5 w' => ∃ (x0_1 : List Int) (x5_1 : Int), v5 = .int .i64 x5_1 ∧ Aside0 (stratumref07_Facts.l0 kq x0_1 l1 x5_1 = some r) ∧ Aside0 (kq ≤ k) ∧ Aside0 (Kd.R (Kd.int .u8) 5 w' w0.heap.size (fun k_ => (P0_ k_ ∨ w.heap.size ≤ k_)) v0 x0_1) ∧ Aside0 (Kept w w' (fun k_ => P0_ k_)) ∧ Aside0 (Below w0.heap.size w0 w'))
  case atStart => exact ⟨(t156), (0), (by first | rfl | (simp; done) | (simp [*]; done)), H', ⟨Nat.le_refl _⟩, ⟨by (with_reducible repeat (first | apply Kd.R_alloc | apply Kd.R_drewN | apply Kd.R_drew)); exact HO158.out⟩, ⟨by repeat (first | (with_reducible first | exact HK.out | apply Kept.alloc | apply Kept.drewN | apply Kept.drew) | exact HK.out)⟩, ⟨by repeat (first | (with_reducible first | exact HB.out | apply below_alloc | apply pw_below_drewN | apply below_drew1) | exact HB.out)⟩⟩
  case round =>
    clear H'
    try clear c1
    try clear p2
    obtain ⟨x0_1, x5_1, rfl, HA, HK1, HO_0, HK, HB⟩ := hrel
    cases gk with
    | zero => exact absurd HA.out (by simp [stratumref07_Facts.l0])
    | succ k1 =>
      have H := HA.out
      clear HA
      simp only [stratumref07_Facts.l0] at H
      by_cases c6 : x5_1 < (l1.length : Int)
      · rw [if_pos c6] at H
        have c6b0 : decide (x5_1 < (l1.length : Int)) = true := decide_eq_true c6
        clear c6
        by_cases c7 : 0 ≤ x5_1
        · rw [if_pos c7] at H
          have c7b0 : decide (0 ≤ x5_1) = true := decide_eq_true c7
          clear c7
          replace H := Option.bind_eq_some_iff.mp H
          obtain ⟨t160, A80, H⟩ := H
          replace H : (stratumref07_Facts.l1 k1 t160 l1 x5_1 0) = some r := H
          have A8 := Aside0.mk A80
          clear A80
          have H' := Aside0.mk H
          clear H
          have p159 : 0 ≤ (x5_1 : Int) := of_decide_eq_true (by first | (with_reducible assumption) | assumption)
          have q159 : x5_1 < (l1.length : Int) := of_decide_eq_true (by first | (with_reducible assumption) | assumption)
          obtain ⟨ad159, A159_0, c159_0, e159, hx159_0, hx159_1, hl159_0, hi159_0⟩ := at_T76 (Kd.C_kept_now HR1.out HK.out) x5_1 p159 q159
          cases e159
          have HR159_0 := Aside0.mk hi159_0
          have HC159_0 := Aside0.mk hl159_0
          clear hi159_0 hl159_0
          replace p159 := eq_true p159
          replace q159 := eq_true q159
          obtain ⟨Ao9, co9, eo9⟩ := Kd.R_slice HO_0.out
          subst eo9
          go_wp2_with (first | ((with_reducible refine gate_callee (f := 86) rfl ?_); refine goesL_ (some 26) rfl rfl Tryd.func86 (by kernel_rfl) rfl #[.slice Ao9 x0_1.length co9, .int .u64 (IntKind.u64.wrap ((((rd_T76 l1 x5_1).f0).length : Int))), .int .i64 1] rfl (by (try simp only [List.map_toArray, List.map_cons, List.map_nil]); first | done | rfl | (simp only [List.length_drop, List.length_take]; rfl)) ?_; (with_reducible refine (stratumref07_Put.calls k1 (fun k_ => some k_ = (.slice Ao9 x0_1.length co9 : Value).ownBlock) (.slice Ao9 x0_1.length co9) x0_1 (IntKind.u64.wrap ((((rd_T76 l1 x5_1).f0).length : Int))) 1 t160 w0 _ ?side1 ?side2 A8.out).mono ?_); (case side1 => repeat (first | (with_reducible first | exact HB.out | apply below_alloc | apply pw_below_drewN | apply below_drew1) | exact HB.out)); (case side2 => exact Kd.R_tight rfl HO_0.out); rintro e w10 ⟨v161, rfl, ho0, hb, hkp⟩; refine ⟨_, rfl, ?_⟩; have n0_ := Aside0.mk (Kd.R_mono (ok' := fun k_ => (P0_ k_ ∨ w.heap.size ≤ k_)) ho0 (fun k_ hk_ => Or.elim hk_ (fun hs_ => (HO_0.out.1 k_ (hs_).symm)) (fun hn_ => (.inr (Nat.le_trans (by first | exact HK.out.1 | exact (show Kept w _ (fun k_ => P0_ k_) from by repeat (first | (with_reducible first | exact HK.out | apply Kept.alloc | apply Kept.drewN | apply Kept.drew) | exact HK.out)).1) hn_))))); have n1_ := Aside0.mk (Kept.then_ (S := (fun k_ => P0_ k_)) (by repeat (first | (with_reducible first | exact HK.out | apply Kept.alloc | apply Kept.drewN | apply Kept.drew) | exact HK.out)) hkp (fun k_ hs_ => (fun e_ => (HO_0.out.1 k_ e_.symm)) hs_)); have n2_ := Aside0.mk (hb); clear HK; clear HB; clear HO_0; have HO162 := n0_; have HK := n1_; have HB := n2_; clear n0_ n1_ n2_; (try clear hb); (try clear hkp); (try clear ho0)))
          go_loopg [0, 6] k1 (fun kq v0 v6 w' => ∃ (x0_2 : List Int) (x6_2 : Int), v6 = .int .i64 x6_2 ∧ Aside0 (stratumref07_Facts.l1 kq x0_2 l1 x5_1 x6_2 = some r) ∧ Aside0 (kq ≤ k1) ∧ Aside0 (Kd.R (Kd.int .u8) 5 w' w0.heap.size (fun k_ => (P0_ k_ ∨ w.heap.size ≤ k_)) v0 x0_2) ∧ Aside0 (Kept w w' (fun k_ => P0_ k_)) ∧ Aside0 (Below w0.heap.size w0 w'))
          case atStart => exact ⟨(t160), (0), (by first | rfl | (simp; done) | (simp [*]; done)), H', ⟨Nat.le_refl _⟩, ⟨by (with_reducible repeat (first | apply Kd.R_alloc | apply Kd.R_drewN | apply Kd.R_drew)); exact HO162.out⟩, ⟨by repeat (first | (with_reducible first | exact HK.out | apply Kept.alloc | apply Kept.drewN | apply Kept.drew) | exact HK.out)⟩, ⟨by repeat (first | (with_reducible first | exact HB.out | apply below_alloc | apply pw_below_drewN | apply below_drew1) | exact HB.out)⟩⟩
          case round =>
            clear H'
            try clear c1
            try clear p1
            try clear q1
            try clear hx1
            try clear p2
            try clear c6
            try clear c6b0
            try clear c7
            try clear c7b0
            try clear c8
            try clear hx159_0
            try clear hx159_1
            try clear p159
            try clear p2
            try clear q159
            obtain ⟨x0_2, x6_2, rfl, HA, HK2, HO_0, HK, HB⟩ := hrel
            cases gk with
            | zero => exact absurd HA.out (by simp [stratumref07_Facts.l1])
            | succ k2 =>
              have H := HA.out
              clear HA
              simp only [stratumref07_Facts.l1] at H
              by_cases c11 : 0 ≤ x5_1
              · rw [if_pos c11] at H
                have c11b0 : decide (0 ≤ x5_1) = true := decide_eq_true c11
                clear c11
                by_cases c12 : x5_1 < (l1.length : Int)
                · rw [if_pos c12] at H
                  have c12b0 : decide (x5_1 < (l1.length : Int)) = true := decide_eq_true c12
                  clear c12
                  by_cases c13 : x6_2 < (((rd_T76 l1 x5_1).f0).length : Int)
                  · rw [if_pos c13] at H
                    have c13b0 : decide (x6_2 < (((rd_T76 l1 x5_1).f0).length : Int)) = true := decide_eq_true c13
                    clear c13
                    by_cases c14 : 0 ≤ x6_2
                    · rw [if_pos c14] at H
                      have c14b0 : decide (0 ≤ x6_2) = true := decide_eq_true c14
                      clear c14
                      replace H := Option.bind_eq_some_iff.mp H
                      obtain ⟨t166, A150, H⟩ := H
                      replace H : (stratumref07_Facts.l1 k2 t166 l1 x5_1 (wrap64 (x6_2 + 1))) = some r := H
                      have A15 := Aside0.mk A150
                      clear A150
                      have H' := Aside0.mk H
                      clear H
                      have p163 : 0 ≤ (x5_1 : Int) := of_decide_eq_true (by first | (with_reducible assumption) | assumption)
                      have q163 : x5_1 < (l1.length : Int) := of_decide_eq_true (by first | (with_reducible assumption) | assumption)
                      obtain ⟨ad163, A163_0, c163_0, e163, hx163_0, hx163_1, hl163_0, hi163_0⟩ := at_T76 (Kd.C_kept_now HR1.out HK.out) x5_1 p163 q163
                      obtain rfl : ad159 = ad163 := (by injection e163)
                      have HR163_0 := Aside0.mk hi163_0
                      have HC163_0 := Aside0.mk hl163_0
                      clear hi163_0 hl163_0
                      replace p163 := eq_true p163
                      replace q163 := eq_true q163
                      have p164 : 0 ≤ (x5_1 : Int) := of_decide_eq_true (by first | (with_reducible assumption) | assumption)
                      have q164 : x5_1 < (l1.length : Int) := of_decide_eq_true (by first | (with_reducible assumption) | assumption)
                      obtain ⟨ad164, A164_0, c164_0, e164, hx164_0, hx164_1, hl164_0, hi164_0⟩ := at_T76 (Kd.C_kept_now HR1.out HK.out) x5_1 p164 q164
                      obtain rfl : ad159 = ad164 := (by injection e164)
                      have HR164_0 := Aside0.mk hi164_0
                      have HC164_0 := Aside0.mk hl164_0
                      clear hi164_0 hl164_0
                      replace p164 := eq_true p164
                      replace q164 := eq_true q164
                      have ea_ := Option.some.inj (hx163_0.symm.trans hx164_0)
                      injection ea_ with ea_ en_ ec_
                      subst ea_
                      subst ec_
                      clear en_
                      have p165 : 0 ≤ (x6_2 : Int) := of_decide_eq_true (by first | (with_reducible assumption) | assumption)
                      have q165 : x6_2 < (((rd_T76 l1 x5_1).f0).length : Int) := of_decide_eq_true (by first | (with_reducible assumption) | assumption)
                      obtain ⟨ad165, e165, hx165_0⟩ := Kd.at_int (by repeat (first | (with_reducible exact HR164_0.out) | (with_reducible refine Kd.C_alloc ?_ _) | (with_reducible refine Kd.C_drewN ?_ _) | (with_reducible refine Kd.C_drew ?_) | exact HR164_0.out)) x6_2 p165 q165
                      cases e165
                      replace p165 := eq_true p165
                      replace q165 := eq_true q165
                      obtain ⟨Ao16, co16, eo16⟩ := Kd.R_slice HO_0.out
                      subst eo16
                      go_wp2_with (first | ((with_reducible refine gate_callee (f := 86) rfl ?_); refine goesL_ (some 47) rfl rfl Tryd.func86 (by kernel_rfl) rfl #[.slice Ao16 x0_2.length co16, .int .u64 (IntKind.u64.wrap (rd ((rd_T76 l1 x5_1).f0) x6_2)), .int .i64 4] rfl (by (try simp only [List.map_toArray, List.map_cons, List.map_nil]); first | done | rfl | (simp only [List.length_drop, List.length_take]; rfl)) ?_; (with_reducible refine (stratumref07_Put.calls k2 (fun k_ => some k_ = (.slice Ao16 x0_2.length co16 : Value).ownBlock) (.slice Ao16 x0_2.length co16) x0_2 (IntKind.u64.wrap (rd ((rd_T76 l1 x5_1).f0) x6_2)) 4 t166 w0 _ ?side1 ?side2 A15.out).mono ?_); (case side1 => repeat (first | (with_reducible first | exact HB.out | apply below_alloc | apply pw_below_drewN | apply below_drew1) | exact HB.out)); (case side2 => exact Kd.R_tight rfl HO_0.out); rintro e w17 ⟨v167, rfl, ho0, hb, hkp⟩; refine ⟨_, rfl, ?_⟩; have n0_ := Aside0.mk (Kd.R_mono (ok' := fun k_ => (P0_ k_ ∨ w.heap.size ≤ k_)) ho0 (fun k_ hk_ => Or.elim hk_ (fun hs_ => (HO_0.out.1 k_ (hs_).symm)) (fun hn_ => (.inr (Nat.le_trans (by first | exact HK.out.1 | exact (show Kept w _ (fun k_ => P0_ k_) from by repeat (first | (with_reducible first | exact HK.out | apply Kept.alloc | apply Kept.drewN | apply Kept.drew) | exact HK.out)).1) hn_))))); have n1_ := Aside0.mk (Kept.then_ (S := (fun k_ => P0_ k_)) (by repeat (first | (with_reducible first | exact HK.out | apply Kept.alloc | apply Kept.drewN | apply Kept.drew) | exact HK.out)) hkp (fun k_ hs_ => (fun e_ => (HO_0.out.1 k_ e_.symm)) hs_)); have n2_ := Aside0.mk (hb); clear HK; clear HB; clear HO_0; have HO168 := n0_; have HK := n1_; have HB := n2_; clear n0_ n1_ n2_; (try clear hb); (try clear hkp); (try clear ho0)))
                      go_roundg k2
                      case measure => have := HK1.out; have := HK2.out; omega
                      case rel => exact ⟨(t166), (wrap64 (x6_2 + 1)), (by first | rfl | (simp; done) | (simp [*]; done)), H', ⟨by have := HK1.out; have := HK2.out; omega⟩, ⟨by (with_reducible repeat (first | apply Kd.R_alloc | apply Kd.R_drewN | apply Kd.R_drew)); exact HO168.out⟩, ⟨by repeat (first | (with_reducible first | exact HK.out | apply Kept.alloc | apply Kept.drewN | apply Kept.drew) | exact HK.out)⟩, ⟨by repeat (first | (with_reducible first | exact HB.out | apply below_alloc | apply pw_below_drewN | apply below_drew1) | exact HB.out)⟩⟩
                    · rw [if_neg c14] at H
                      exact absurd H (by simp)
                  · rw [if_neg c13] at H
                    have c13b0 : decide (x6_2 < (((rd_T76 l1 x5_1).f0).length : Int)) = false := decide_eq_false c13
                    clear c13
                    replace H := Option.bind_eq_some_iff.mp H
                    obtain ⟨t170, A180, H⟩ := H
                    replace H : (stratumref07_Facts.l0 k2 t170 l1 (wrap64 (x5_1 + 1))) = some r := H
                    have A18 := Aside0.mk A180
                    clear A180
                    have H' := Aside0.mk H
                    clear H
                    have p163 : 0 ≤ (x5_1 : Int) := of_decide_eq_true (by first | (with_reducible assumption) | assumption)
                    have q163 : x5_1 < (l1.length : Int) := of_decide_eq_true (by first | (with_reducible assumption) | assumption)
                    obtain ⟨ad163, A163_0, c163_0, e163, hx163_0, hx163_1, hl163_0, hi163_0⟩ := at_T76 (Kd.C_kept_now HR1.out HK.out) x5_1 p163 q163
                    obtain rfl : ad159 = ad163 := (by injection e163)
                    have HR163_0 := Aside0.mk hi163_0
                    have HC163_0 := Aside0.mk hl163_0
                    clear hi163_0 hl163_0
                    replace p163 := eq_true p163
                    replace q163 := eq_true q163
                    have p169 : 0 ≤ (x5_1 : Int) := of_decide_eq_true (by first | (with_reducible assumption) | assumption)
                    have q169 : x5_1 < (l1.length : Int) := of_decide_eq_true (by first | (with_reducible assumption) | assumption)
                    obtain ⟨ad169, A169_0, c169_0, e169, hx169_0, hx169_1, hl169_0, hi169_0⟩ := at_T76 (Kd.C_kept_now HR1.out HK.out) x5_1 p169 q169
                    obtain rfl : ad159 = ad169 := (by injection e169)
                    have HR169_0 := Aside0.mk hi169_0
                    have HC169_0 := Aside0.mk hl169_0
                    clear hi169_0 hl169_0
                    replace p169 := eq_true p169
                    replace q169 := eq_true q169
                    have ea_ := Option.some.inj (hx163_0.symm.trans hx169_0)
                    injection ea_ with ea_ en_ ec_
                    subst ea_
                    subst ec_
                    clear en_
                    obtain ⟨Ao19, co19, eo19⟩ := Kd.R_slice HO_0.out
                    subst eo19
                    go_wp2_with (first | ((with_reducible refine gate_callee (f := 86) rfl ?_); refine goesL_ (some 55) rfl rfl Tryd.func86 (by kernel_rfl) rfl #[.slice Ao19 x0_2.length co19, .int .u64 (IntKind.u64.wrap ((rd_T76 l1 x5_1).f1)), .int .i64 8] rfl (by (try simp only [List.map_toArray, List.map_cons, List.map_nil]); first | done | rfl | (simp only [List.length_drop, List.length_take]; rfl)) ?_; (with_reducible refine (stratumref07_Put.calls k2 (fun k_ => some k_ = (.slice Ao19 x0_2.length co19 : Value).ownBlock) (.slice Ao19 x0_2.length co19) x0_2 (IntKind.u64.wrap ((rd_T76 l1 x5_1).f1)) 8 t170 w0 _ ?side1 ?side2 A18.out).mono ?_); (case side1 => repeat (first | (with_reducible first | exact HB.out | apply below_alloc | apply pw_below_drewN | apply below_drew1) | exact HB.out)); (case side2 => exact Kd.R_tight rfl HO_0.out); rintro e w20 ⟨v171, rfl, ho0, hb, hkp⟩; refine ⟨_, rfl, ?_⟩; have n0_ := Aside0.mk (Kd.R_mono (ok' := fun k_ => (P0_ k_ ∨ w.heap.size ≤ k_)) ho0 (fun k_ hk_ => Or.elim hk_ (fun hs_ => (HO_0.out.1 k_ (hs_).symm)) (fun hn_ => (.inr (Nat.le_trans (by first | exact HK.out.1 | exact (show Kept w _ (fun k_ => P0_ k_) from by repeat (first | (with_reducible first | exact HK.out | apply Kept.alloc | apply Kept.drewN | apply Kept.drew) | exact HK.out)).1) hn_))))); have n1_ := Aside0.mk (Kept.then_ (S := (fun k_ => P0_ k_)) (by repeat (first | (with_reducible first | exact HK.out | apply Kept.alloc | apply Kept.drewN | apply Kept.drew) | exact HK.out)) hkp (fun k_ hs_ => (fun e_ => (HO_0.out.1 k_ e_.symm)) hs_)); have n2_ := Aside0.mk (hb); clear HK; clear HB; clear HO_0; have HO172 := n0_; have HK := n1_; have HB := n2_; clear n0_ n1_ n2_; (try clear hb); (try clear hkp); (try clear ho0)))
                    go_roundg k2
                    case measure => have := HK1.out; have := HK2.out; omega
                    case rel => exact ⟨(t170), (wrap64 (x5_1 + 1)), (by first | rfl | (simp; done) | (simp [*]; done)), H', ⟨by have := HK1.out; have := HK2.out; omega⟩, ⟨by (with_reducible repeat (first | apply Kd.R_alloc | apply Kd.R_drewN | apply Kd.R_drew)); exact HO172.out⟩, ⟨by repeat (first | (with_reducible first | exact HK.out | apply Kept.alloc | apply Kept.drewN | apply Kept.drew) | exact HK.out)⟩, ⟨by repeat (first | (with_reducible first | exact HB.out | apply below_alloc | apply pw_below_drewN | apply below_drew1) | exact HB.out)⟩⟩
                · rw [if_neg c12] at H
                  exact absurd H (by simp)
              · rw [if_neg c11] at H
                exact absurd H (by simp)
        · rw [if_neg c7] at H
          exact absurd H (by simp)
      · rw [if_neg c6] at H
        have c6b0 : decide (x5_1 < (l1.length : Int)) = false := decide_eq_false c6
        clear c6
        obtain rfl := Option.some.inj H
        go_wp2
        go_ret
        exact ⟨_, by first | rfl | (simp [errW_none, errW_some] <;> rfl) | (simp [*, errW_none, errW_some] <;> rfl), by (with_reducible repeat (first | apply Kd.R_alloc | apply Kd.R_drewN | apply Kd.R_drew)); exact HO_0.out, by repeat (first | (with_reducible first | exact HB.out | apply below_alloc | apply pw_below_drewN | apply below_drew1) | exact HB.out), by repeat (first | (with_reducible first | exact HK.out | apply Kept.alloc | apply Kept.drewN | apply Kept.drew) | exact HK.out)⟩
end Go.Proofs.YtbbhjceelghadaaDoor.K
end

section
-- from K45
namespace Go.Proofs.YtbbhjceelghadaaDoor.K
open Go.RowKit Go.Proofs.YtbbhjceelghadaaDoorW.PrintWords Go.Proofs.YtbbhjceelghadaaDoorW.PrintLast Go.Proofs.YtbbhjceelghadaaDoorW.PrintMore
attribute [local go_sem] max2_int min2_int max_two min_two max_three min_three max_four min_four
set_option linter.unusedVariables false
set_option linter.unusedSimpArgs false
def stratumref07_SameFacts.f (k : Nat) (l0 : List (S76)) (l1 : List (S76)) : Option (Bool) := (stratumref07_Facts.f k ([] : List Int) l0).bind fun t210 => ((stratumref07_Facts.f k ([] : List Int) l1).bind fun t213 => (some ((strOfNums t210).toList == (strOfNums t213).toList)))
theorem stratumref07_SameFacts.mono : ∀ a0 a1 k, LeO (stratumref07_SameFacts.f k a0 a1) (stratumref07_SameFacts.f (k + 1) a0 a1) := by
  intro a0 a1 k
  unfold stratumref07_SameFacts.f
  repeat' first
      | (with_reducible exact stratumref07_Facts.mono _ _ _)
      | (with_reducible exact LeO.refl _)
      | (with_reducible exact LeO.none _)
      | (with_reducible refine LeO.ite ?_ ?_)
      | (with_reducible refine LeO.bind ?_ (fun _ => ?_))
      | exact stratumref07_Facts.mono _ _ _
      | exact LeO.none _
      | refine LeO.ite ?_ ?_
      | refine LeO.bind ?_ (fun _ => ?_)
def stratumref07_SameFacts.T1 : Bool × List (List Nat × List Nat) := (true, [([], []), ([0], [0]), ([1], [1]), ([], []), ([3, 1], [3]), ([4], [4]), ([2, 5], [2, 5]), ([6, 4, 0, 1, 2, 3, 4, 5, 6], [6])])
def stratumref07_SameFacts.B1 : List Nat := [0, 1, 3, 0, 11, 27, 63, 127]
theorem stratumref07_SameFacts.tab1 : rtab .any (opsOf Tryd.f105 1) = stratumref07_SameFacts.T1 := by kernel_rfl
theorem stratumref07_SameFacts.bits1 : waitsOk stratumref07_SameFacts.T1.2 stratumref07_SameFacts.B1 = true := by kernel_rfl
set_option maxHeartbeats 8000000 in
set_option maxRecDepth 100000 in
theorem stratumref07_SameFacts.calls (k : Nat) (A0 : Option Addr) (c0 : Nat) (l0 : List (S76)) (A1 : Option Addr) (c1 : Nat) (l1 : List (S76)) (r : Bool) (w : World) (hr0 : Kd.C k76 w A0 l0.length l0) (hc0 : l0.length ≤ c0) (hr1 : Kd.C k76 w A1 l1.length l1) (hc1 : l1.length ≤ c1) (h : stratumref07_SameFacts.f k l0 l1 = some r) :
    Calls Tryd.prog 105 #[.slice A0 l0.length c0, .slice A1 l1.length c1] w fun e w' => e = .returned (.bool r) ∧ Below w.heap.size w w' := by
  have HR0 := Aside0.mk hr0
  have HC0 := Aside0.mk hc0
  clear hr0 hc0
  have HR1 := Aside0.mk hr1
  have HC1 := Aside0.mk hc1
  clear hr1 hc1
  have HB := Aside0.mk (Below.refl w.heap.size w)
  have H : ((stratumref07_Facts.f k ([] : List Int) l0).bind fun t210 => ((stratumref07_Facts.f k ([] : List Int) l1).bind fun t213 => (some ((strOfNums t210).toList == (strOfNums t213).toList)))) = some r := h
  clear h
  replace H := Option.bind_eq_some_iff.mp H
  obtain ⟨t210, A30, H⟩ := H
  replace H : ((stratumref07_Facts.f k ([] : List Int) l1).bind fun t213 => (some ((strOfNums t210).toList == (strOfNums t213).toList))) = some r := H
  have A3 := Aside0.mk A30
  clear A30
  replace H := Option.bind_eq_some_iff.mp H
  obtain ⟨t213, A40, H⟩ := H
  replace H : (some ((strOfNums t210).toList == (strOfNums t213).toList)) = some r := H
  have A4 := Aside0.mk A40
  clear A40
  obtain rfl := Option.some.inj H
  go_enter Tryd.func105, Tryd.ntmps105
  try go_wp2
  have n0_ := Aside0.mk (below_drew1 HB.out)
  clear HB
  have HB := n0_
  clear n0_
  refine start_ (n := 8) (S := fun w' => True) (ds := []) #[false, false, false, false, false, false, false, false] (by kernel_rfl) rfl rfl trivial (fun hHeld => ?_); refine with_tabW stratumref07_SameFacts.tab1 stratumref07_SameFacts.bits1 (fun HT_ HW_ => ?_)
  generalize w.drew = w5 at HB hHeld ⊢
  refine pure_ (i := 0) (N := some 5) (v := ?_) (a' := ?_) #[true, false, false, false, false, false, false, false] rfl rfl (any_of HT_.out (by kernel_rfl)) (fun _ _ _ h => h) (Or.inl ⟨by rfl, ?_⟩) ?_ ?_
  rotate_left
  · intro w'
    go_simp
    with_reducible rfl
  rotate_left
  · simp only [Act.put, List.setIfInBounds_toArray, List.set_cons_zero, List.set_cons_succ, i64_w, i32_w]
    rfl
  refine pure_ (i := 3) (N := some 8) (v := ?_) (a' := ?_) #[true, false, false, true, false, false, false, false] rfl rfl (any_of HT_.out (by kernel_rfl)) (fun _ _ _ h => h) (Or.inl ⟨by rfl, ?_⟩) ?_ ?_
  rotate_left
  · intro w'
    go_simp
    with_reducible rfl
  rotate_left
  · simp only [Act.put, List.setIfInBounds_toArray, List.set_cons_zero, List.set_cons_succ, i64_w, i32_w]
    rfl
  refine one_ (i := 1) (N := some 6) #[true, true, false, true, false, false, false, false] rfl rfl (one_of HT_.out (by kernel_rfl)) (by decide) (fun K hK => ?_)
  refine goes_ Tryd.func88 (by kernel_rfl) rfl #[.slice none 0 0, .slice A0 l0.length c0] (by rfl) rfl rfl (by (try simp only [List.map_toArray, List.map_cons, List.map_nil]); first | done | rfl | (simp only [List.length_drop, List.length_take]; rfl)) ?_
  refine (stratumref07_Facts.calls k (fun k_ => some k_ = (.slice none 0 0 : Value).ownBlock) (.slice none 0 0) ([] : List Int) _ _ l0 t210 w _ ?side1 ?side2 ?side3 ?side4 A3.out).mono ?_
  (case side1 => repeat (first | (with_reducible first | exact HB.out | apply below_alloc | apply pw_below_drewN | apply below_drew1) | exact HB.out))
  (case side2 => exact Kd.R_nil _ _ _ _ _)
  (case side3 => exact Kd.C_kept_came k76_heap HR0.out (by repeat (first | (with_reducible first | exact HB.out | apply below_alloc | apply pw_below_drewN | apply below_drew1) | exact HB.out)) (fun k_ hs_ => (fun e_ => by simp [Value.ownBlock] at e_) hs_))
  (case side4 => exact HC0.out)
  rintro e w6 ⟨v211, rfl, ho0, hb, hkp⟩
  refine ⟨_, rfl, ?_⟩
  have n0_ := Aside0.mk (Kd.R_mono (ok' := fun k_ => True) ho0 (fun k_ hk_ => trivial))
  have n1_ := Aside0.mk (hb)
  clear HB
  have HO212 := n0_
  have HB := n1_
  clear n0_ n1_
  (try clear hb)
  (try clear hkp)
  (try clear ho0)
  refine hK.out _ _ trivial (fun hHeld => ?_)
  clear hK K
  refine norm_ (a' := ?_) ?_ ?_
  rotate_left
  · show Act.put _ (some 6) _ = _
    simp only [Act.put, List.setIfInBounds_toArray, List.set_cons_zero, List.set_cons_succ, i64_w, i32_w]
    rfl
  refine join_ (σ := Value) 2 #[true, true, true, true, true, true, false, false] (fun s_ => [(7, .string (strOfNums t210)), (9, s_), (10, .string (strOfNums t213))]) (fun s_ w' => (Kd.R (Kd.int .u8) 5 w' w.heap.size (fun k_ => some k_ ≠ (s_ : Value).ownBlock) v211 t210) ∧ (Kd.R (Kd.int .u8) 5 w' w.heap.size (fun k_ => some k_ ≠ (v211 : Value).ownBlock) s_ t213) ∧ (Below w.heap.size w w')) ?_ ?_
  rotate_left
  · intro hCont
    refine two_ (i := 2) (j := 4) (Ni := some 7) (Nj := some 9) #[true, true, true, true, false, false, false, false] #[true, true, false, true, true, false, false, false] rfl rfl rfl rfl (two_of HT_.out (by kernel_rfl)) (by decide) (by decide) (fun K hK => ?_) (fun K hK => ?_)
    · skip
      have hcv7 := own_string (P := Tryd.prog) Tryd.underlying23 Tryd.underlying5 Tryd.underlying9 (Kd.own_of_R HO212.out)
      refine value_ (w1 := ?_) (v := ?_) (by rfl) rfl ?_ ?_
      rotate_left 2
      · go_simp
        constructor
        · rfl
        · rfl
      clear hcv7
      refine hK.out _ _ trivial (fun hHeld => ?_)
      clear hK K
      refine norm_ (a' := ?_) ?_ ?_
      rotate_left
      · show Act.put _ (some 7) _ = _
        simp only [Act.put, List.setIfInBounds_toArray, List.set_cons_zero, List.set_cons_succ, i64_w, i32_w]
        rfl
      refine one_ (i := 4) (N := some 9) #[true, true, true, true, true, false, false, false] rfl rfl (one_of HT_.out (by kernel_rfl)) (by decide) (fun K hK => ?_)
      refine goes_ Tryd.func88 (by kernel_rfl) rfl #[.slice none 0 0, .slice A1 l1.length c1] (by rfl) rfl rfl (by (try simp only [List.map_toArray, List.map_cons, List.map_nil]); first | done | rfl | (simp only [List.length_drop, List.length_take]; rfl)) ?_
      refine (stratumref07_Facts.calls k (fun k_ => some k_ = (.slice none 0 0 : Value).ownBlock) (.slice none 0 0) ([] : List Int) _ _ l1 t213 w _ ?side1 ?side2 ?side3 ?side4 A4.out).mono ?_
      (case side1 => repeat (first | (with_reducible first | exact HB.out | apply below_alloc | apply pw_below_drewN | apply below_drew1) | exact HB.out))
      (case side2 => exact Kd.R_nil _ _ _ _ _)
      (case side3 => exact Kd.C_kept_came k76_heap HR1.out (by repeat (first | (with_reducible first | exact HB.out | apply below_alloc | apply pw_below_drewN | apply below_drew1) | exact HB.out)) (fun k_ hs_ => (fun e_ => by simp [Value.ownBlock] at e_) hs_))
      (case side4 => exact HC1.out)
      rintro e w8 ⟨v214, rfl, ho0, hb, hkp⟩
      refine ⟨_, rfl, ?_⟩
      have n0_ := Aside0.mk (Kd.R_mono (ok' := fun k_ => some k_ ≠ (v214 : Value).ownBlock) (Kd.R_keptB (HO212.out) hkp (fun k_ hk_ hs_ => (fun e_ => by simp [Value.ownBlock] at e_) hs_)) (fun k_ hk_ => fun e_ => Or.elim (ho0.1 k_ e_.symm) (fun hs_ => hk_.2.1 hs_) (fun hn_ => Nat.not_le.2 hk_.2.2 hn_)))
      have n1_ := Aside0.mk (Kd.R_mono (ok' := fun k_ => some k_ ≠ (v211 : Value).ownBlock) ho0 (fun k_ hk_ => Or.elim hk_ (fun hs_ => absurd hs_ (by simp [Value.ownBlock])) (fun hn_ => (Kd.fresh' (Kd.R_lt (by (with_reducible repeat (first | apply Kd.R_alloc | apply Kd.R_drewN | apply Kd.R_drew)); exact HO212.out)) k_ hn_))))
      have n2_ := Aside0.mk (hb)
      clear HO212
      clear HB
      have HO212 := n0_
      have HO215 := n1_
      have HB := n2_
      clear n0_ n1_ n2_
      (try clear hb)
      (try clear hkp)
      (try clear ho0)
      refine hK.out _ _ trivial (fun hHeld => ?_)
      clear hK K
      refine norm_ (a' := ?_) ?_ ?_
      rotate_left
      · show Act.put _ (some 9) _ = _
        simp only [Act.put, List.setIfInBounds_toArray, List.set_cons_zero, List.set_cons_succ, i64_w, i32_w]
        rfl
      refine one_ (i := 5) (N := some 10) #[true, true, true, true, true, true, false, false] rfl rfl (one_of HT_.out (by kernel_rfl)) (by decide) (fun K hK => ?_)
      have hcv9 := own_string (P := Tryd.prog) Tryd.underlying23 Tryd.underlying5 Tryd.underlying9 (Kd.own_of_R HO215.out)
      refine value_ (w1 := ?_) (v := ?_) (by rfl) rfl ?_ ?_
      rotate_left 2
      · go_simp
        constructor
        · rfl
        · rfl
      clear hcv9
      refine hK.out _ _ trivial (fun hHeld => ?_)
      clear hK K
      refine norm_ (a' := ?_) ?_ ?_
      rotate_left
      · show Act.put _ (some 10) _ = _
        simp only [Act.put, List.setIfInBounds_toArray, List.set_cons_zero, List.set_cons_succ, i64_w, i32_w]
        rfl
      exact norm_ (by simp only [putAll, Act.put, List.setIfInBounds_toArray, List.set_cons_zero, List.set_cons_succ]) (hCont (v214) _ ⟨(by (with_reducible repeat (first | apply Kd.R_alloc | apply Kd.R_drewN | apply Kd.R_drew)); exact HO212.out), (by (with_reducible repeat (first | apply Kd.R_alloc | apply Kd.R_drewN | apply Kd.R_drew)); exact HO215.out), (by repeat (first | (with_reducible first | exact HB.out | apply below_alloc | apply pw_below_drewN | apply below_drew1) | exact HB.out))⟩)
    · skip
      refine goes_ Tryd.func88 (by kernel_rfl) rfl #[.slice none 0 0, .slice A1 l1.length c1] (by rfl) rfl rfl (by (try simp only [List.map_toArray, List.map_cons, List.map_nil]); first | done | rfl | (simp only [List.length_drop, List.length_take]; rfl)) ?_
      refine (stratumref07_Facts.calls k (fun k_ => some k_ = (.slice none 0 0 : Value).ownBlock) (.slice none 0 0) ([] : List Int) _ _ l1 t213 w _ ?side1 ?side2 ?side3 ?side4 A4.out).mono ?_
      (case side1 => repeat (first | (with_reducible first | exact HB.out | apply below_alloc | apply pw_below_drewN | apply below_drew1) | exact HB.out))
      (case side2 => exact Kd.R_nil _ _ _ _ _)
      (case side3 => exact Kd.C_kept_came k76_heap HR1.out (by repeat (first | (with_reducible first | exact HB.out | apply below_alloc | apply pw_below_drewN | apply below_drew1) | exact HB.out)) (fun k_ hs_ => (fun e_ => by simp [Value.ownBlock] at e_) hs_))
      (case side4 => exact HC1.out)
      rintro e w7 ⟨v214, rfl, ho0, hb, hkp⟩
      refine ⟨_, rfl, ?_⟩
      have n0_ := Aside0.mk (Kd.R_mono (ok' := fun k_ => some k_ ≠ (v214 : Value).ownBlock) (Kd.R_keptB (HO212.out) hkp (fun k_ hk_ hs_ => (fun e_ => by simp [Value.ownBlock] at e_) hs_)) (fun k_ hk_ => fun e_ => Or.elim (ho0.1 k_ e_.symm) (fun hs_ => hk_.2.1 hs_) (fun hn_ => Nat.not_le.2 hk_.2.2 hn_)))
      have n1_ := Aside0.mk (Kd.R_mono (ok' := fun k_ => some k_ ≠ (v211 : Value).ownBlock) ho0 (fun k_ hk_ => Or.elim hk_ (fun hs_ => absurd hs_ (by simp [Value.ownBlock])) (fun hn_ => (Kd.fresh' (Kd.R_lt (by (with_reducible repeat (first | apply Kd.R_alloc | apply Kd.R_drewN | apply Kd.R_drew)); exact HO212.out)) k_ hn_))))
      have n2_ := Aside0.mk (hb)
      clear HO212
      clear HB
      have HO212 := n0_
      have HO215 := n1_
      have HB := n2_
      clear n0_ n1_ n2_
      (try clear hb)
      (try clear hkp)
      (try clear ho0)
      refine hK.out _ _ trivial (fun hHeld => ?_)
      clear hK K
      refine norm_ (a' := ?_) ?_ ?_
      rotate_left
      · show Act.put _ (some 9) _ = _
        simp only [Act.put, List.setIfInBounds_toArray, List.set_cons_zero, List.set_cons_succ, i64_w, i32_w]
        rfl
      refine two_ (i := 2) (j := 5) (Ni := some 7) (Nj := some 10) #[true, true, true, true, true, false, false, false] #[true, true, false, true, true, true, false, false] rfl rfl rfl rfl (two_of HT_.out (by kernel_rfl)) (by decide) (by decide) (fun K hK => ?_) (fun K hK => ?_)
      · skip
        have hcv8 := own_string (P := Tryd.prog) Tryd.underlying23 Tryd.underlying5 Tryd.underlying9 (Kd.own_of_R HO212.out)
        refine value_ (w1 := ?_) (v := ?_) (by rfl) rfl ?_ ?_
        rotate_left 2
        · go_simp
          constructor
          · rfl
          · rfl
        clear hcv8
        refine hK.out _ _ trivial (fun hHeld => ?_)
        clear hK K
        refine norm_ (a' := ?_) ?_ ?_
        rotate_left
        · show Act.put _ (some 7) _ = _
          simp only [Act.put, List.setIfInBounds_toArray, List.set_cons_zero, List.set_cons_succ, i64_w, i32_w]
          rfl
        refine one_ (i := 5) (N := some 10) #[true, true, true, true, true, true, false, false] rfl rfl (one_of HT_.out (by kernel_rfl)) (by decide) (fun K hK => ?_)
        have hcv9 := own_string (P := Tryd.prog) Tryd.underlying23 Tryd.underlying5 Tryd.underlying9 (Kd.own_of_R HO215.out)
        refine value_ (w1 := ?_) (v := ?_) (by rfl) rfl ?_ ?_
        rotate_left 2
        · go_simp
          constructor
          · rfl
          · rfl
        clear hcv9
        refine hK.out _ _ trivial (fun hHeld => ?_)
        clear hK K
        refine norm_ (a' := ?_) ?_ ?_
        rotate_left
        · show Act.put _ (some 10) _ = _
          simp only [Act.put, List.setIfInBounds_toArray, List.set_cons_zero, List.set_cons_succ, i64_w, i32_w]
          rfl
        exact norm_ (by simp only [putAll, Act.put, List.setIfInBounds_toArray, List.set_cons_zero, List.set_cons_succ]) (hCont (v214) _ ⟨(by (with_reducible repeat (first | apply Kd.R_alloc | apply Kd.R_drewN | apply Kd.R_drew)); exact HO212.out), (by (with_reducible repeat (first | apply Kd.R_alloc | apply Kd.R_drewN | apply Kd.R_drew)); exact HO215.out), (by repeat (first | (with_reducible first | exact HB.out | apply below_alloc | apply pw_below_drewN | apply below_drew1) | exact HB.out))⟩)
      · skip
        have hcv8 := own_string (P := Tryd.prog) Tryd.underlying23 Tryd.underlying5 Tryd.underlying9 (Kd.own_of_R HO215.out)
        refine value_ (w1 := ?_) (v := ?_) (by rfl) rfl ?_ ?_
        rotate_left 2
        · go_simp
          constructor
          · rfl
          · rfl
        clear hcv8
        refine hK.out _ _ trivial (fun hHeld => ?_)
        clear hK K
        refine norm_ (a' := ?_) ?_ ?_
        rotate_left
        · show Act.put _ (some 10) _ = _
          simp only [Act.put, List.setIfInBounds_toArray, List.set_cons_zero, List.set_cons_succ, i64_w, i32_w]
          rfl
        refine one_ (i := 2) (N := some 7) #[true, true, true, true, true, true, false, false] rfl rfl (one_of HT_.out (by kernel_rfl)) (by decide) (fun K hK => ?_)
        have hcv9 := own_string (P := Tryd.prog) Tryd.underlying23 Tryd.underlying5 Tryd.underlying9 (Kd.own_of_R HO212.out)
        refine value_ (w1 := ?_) (v := ?_) (by rfl) rfl ?_ ?_
        rotate_left 2
        · go_simp
          constructor
          · rfl
          · rfl
        clear hcv9
        refine hK.out _ _ trivial (fun hHeld => ?_)
        clear hK K
        refine norm_ (a' := ?_) ?_ ?_
        rotate_left
        · show Act.put _ (some 7) _ = _
          simp only [Act.put, List.setIfInBounds_toArray, List.set_cons_zero, List.set_cons_succ, i64_w, i32_w]
          rfl
        exact norm_ (by simp only [putAll, Act.put, List.setIfInBounds_toArray, List.set_cons_zero, List.set_cons_succ]) (hCont (v214) _ ⟨(by (with_reducible repeat (first | apply Kd.R_alloc | apply Kd.R_drewN | apply Kd.R_drew)); exact HO212.out), (by (with_reducible repeat (first | apply Kd.R_alloc | apply Kd.R_drewN | apply Kd.R_drew)); exact HO215.out), (by repeat (first | (with_reducible first | exact HB.out | apply below_alloc | apply pw_below_drewN | apply below_drew1) | exact HB.out))⟩)
  rintro v214 w10 ⟨h0_, h1_, h2_⟩
  have n0_ : Aside0 (Kd.R (Kd.int .u8) 5 w10 w.heap.size (fun k_ => some k_ ≠ (v214 : Value).ownBlock) v211 t210) := ⟨h0_⟩
  have n1_ : Aside0 (Kd.R (Kd.int .u8) 5 w10 w.heap.size (fun k_ => some k_ ≠ (v211 : Value).ownBlock) v214 t213) := ⟨h1_⟩
  have n2_ : Aside0 (Below w.heap.size w w10) := ⟨h2_⟩
  clear HB
  clear h0_ h1_ h2_
  have HO212 := n0_
  have HO215 := n1_
  have HB := n2_
  clear n0_ n1_ n2_
  have hHeld := trivial
  refine norm_ (a' := ?_) ?_ ?_
  rotate_left
  · simp only [putAll, Act.put, List.setIfInBounds_toArray, List.set_cons_zero, List.set_cons_succ]
    rfl
  refine pure_ (i := 6) (N := some 11) (v := ?_) (a' := ?_) #[true, true, true, true, true, true, true, false] rfl rfl (any_of HT_.out (by kernel_rfl)) (fun _ _ _ h => h) (Or.inl ⟨by rfl, ?_⟩) ?_ ?_
  rotate_left
  · intro w'
    go_simp
    with_reducible rfl
  rotate_left
  · simp only [Act.put, List.setIfInBounds_toArray, List.set_cons_zero, List.set_cons_succ, i64_w, i32_w]
    rfl
  refine pure_ (i := 7) (N := some 4) (v := ?_) (a' := ?_) #[true, true, true, true, true, true, true, true] rfl rfl (any_of HT_.out (by kernel_rfl)) (fun _ _ _ h => h) (Or.inl ⟨by rfl, ?_⟩) ?_ ?_
  rotate_left
  · intro w'
    go_simp
    with_reducible rfl
  rotate_left
  · simp only [Act.put, List.setIfInBounds_toArray, List.set_cons_zero, List.set_cons_succ, i64_w, i32_w]
    rfl
  refine done_ (done_of HT_.out (by kernel_rfl)) ?_
  try go_wp2
  go_ret
  exact ⟨by first | rfl | (simp [errW_none, errW_some] <;> rfl) | (simp [*, errW_none, errW_some] <;> rfl), by repeat (first | (with_reducible first | exact HB.out | apply below_alloc | apply pw_below_drewN | apply below_drew1) | exact HB.out)⟩
end Go.Proofs.YtbbhjceelghadaaDoor.K
end

section
-- from K1
namespace Go.Proofs.YtbbhjceelghadaaDoor.K
open Go.RowKit Go.Proofs.YtbbhjceelghadaaDoorW.PrintWords Go.Proofs.YtbbhjceelghadaaDoorW.PrintLast Go.Proofs.YtbbhjceelghadaaDoorW.PrintMore
attribute [local go_sem] max2_int min2_int max_two min_two max_three min_three max_four min_four
set_option linter.unusedVariables false
set_option linter.unusedSimpArgs false
theorem eqA132 (d : Nat) (w : World) (x0 y0 : Int) (x1 y1 : Int) :
    (Op.equalIn (d + 2) 132 (.agg #[.int .i64 x0, .int .i64 x1]) (.agg #[.int .i64 y0, .int .i64 y1])).run Tryd.prog w = .ok (x0 == y0 && (x1 == y1)) w := by
  refine eqA_of Tryd.underlying132 (by kernel_rfl) ?_
  refine eqf_cons (by rfl) (by go_simp; rfl) (by go_simp; rfl) (by go_simp) ?_
  exact eqf_last (by rfl) (by go_simp; rfl) (by go_simp; rfl) (by go_simp)
end Go.Proofs.YtbbhjceelghadaaDoor.K
end

section
-- from K46
namespace Go.Proofs.YtbbhjceelghadaaDoor.K
open Go.RowKit Go.Proofs.YtbbhjceelghadaaDoorW.PrintWords Go.Proofs.YtbbhjceelghadaaDoorW.PrintLast Go.Proofs.YtbbhjceelghadaaDoorW.PrintMore
attribute [local go_sem] max2_int min2_int max_two min_two max_three min_three max_four min_four
set_option linter.unusedVariables false
set_option linter.unusedSimpArgs false
attribute [local go_sem high] eqA132
mutual
def stratumref07_SameMap.j0 : Nat → Bool → Int → List (S132) → Int → List (S132) → Option (Bool)
  | 0, _, _, _, _, _ => none
  | k + 1, x19, x217000, x217001, x218000, x218001 => if x19 = true then (some false) else (stratumref07_SameMap.l0 k 0 x217000 x217001 x218000 x218001)
def stratumref07_SameMap.l0 : Nat → Int → Int → List (S132) → Int → List (S132) → Option (Bool)
  | 0, _, _, _, _, _ => none
  | k + 1, x5, x217000, x217001, x218000, x218001 => if x5 < (x217001.length : Int) then (if 0 ≤ x5 then (if x5 < (x218001.length : Int) then (if (!(((rd_T132 x217001 x5).f0) == ((rd_T132 x218001 x5).f0)) || (!(((rd_T132 x217001 x5).f1) == ((rd_T132 x218001 x5).f1)))) = true then (some false) else (stratumref07_SameMap.l0 k (wrap64 (x5 + 1)) x217000 x217001 x218000 x218001)) else (none)) else (none)) else (some true)
end
def stratumref07_SameMap.f (k : Nat) (a0_0 : Int) (l0_1 : List (S132)) (a1_0 : Int) (l1_1 : List (S132)) : Option (Bool) := if a0_0 = a1_0 then (stratumref07_SameMap.j0 k ((l0_1.length : Int) != (l1_1.length : Int)) a0_0 l0_1 a1_0 l1_1) else (stratumref07_SameMap.j0 k true a0_0 l0_1 a1_0 l1_1)
theorem stratumref07_SameMap.mono_l : ∀ k, (∀ y0 y1 y2 y3 y4, LeO (stratumref07_SameMap.j0 k y0 y1 y2 y3 y4) (stratumref07_SameMap.j0 (k + 1) y0 y1 y2 y3 y4)) ∧ (∀ y0 y1 y2 y3 y4, LeO (stratumref07_SameMap.l0 k y0 y1 y2 y3 y4) (stratumref07_SameMap.l0 (k + 1) y0 y1 y2 y3 y4))
  | 0 => ⟨fun _ _ _ _ _ r h => by simp [stratumref07_SameMap.j0] at h, fun _ _ _ _ _ r h => by simp [stratumref07_SameMap.l0] at h⟩
  | k + 1 => by
    obtain ⟨ih0, ih1⟩ := stratumref07_SameMap.mono_l k
    refine ⟨?_, ?_⟩
    · intro y0 y1 y2 y3 y4
      unfold stratumref07_SameMap.j0
      repeat' first
      | (with_reducible exact ih0 _ _ _ _ _)
      | (with_reducible exact ih1 _ _ _ _ _)
      | (with_reducible exact LeO.refl _)
      | (with_reducible exact LeO.none _)
      | (with_reducible refine LeO.ite ?_ ?_)
      | (with_reducible refine LeO.bind ?_ (fun _ => ?_))
      | exact ih0 _ _ _ _ _
      | exact ih1 _ _ _ _ _
      | exact LeO.none _
      | refine LeO.ite ?_ ?_
      | refine LeO.bind ?_ (fun _ => ?_)
    · intro y0 y1 y2 y3 y4
      unfold stratumref07_SameMap.l0
      repeat' first
      | (with_reducible exact ih0 _ _ _ _ _)
      | (with_reducible exact ih1 _ _ _ _ _)
      | (with_reducible exact LeO.refl _)
      | (with_reducible exact LeO.none _)
      | (with_reducible refine LeO.ite ?_ ?_)
      | (with_reducible refine LeO.bind ?_ (fun _ => ?_))
      | exact ih0 _ _ _ _ _
      | exact ih1 _ _ _ _ _
      | exact LeO.none _
      | refine LeO.ite ?_ ?_
      | refine LeO.bind ?_ (fun _ => ?_)
theorem stratumref07_SameMap.mono : ∀ a0 a1 a2 a3 k, LeO (stratumref07_SameMap.f k a0 a1 a2 a3) (stratumref07_SameMap.f (k + 1) a0 a1 a2 a3) := by
  intro a0 a1 a2 a3 k
  obtain ⟨ih0, ih1⟩ := stratumref07_SameMap.mono_l k
  unfold stratumref07_SameMap.f
  repeat' first
      | (with_reducible exact ih0 _ _ _ _ _)
      | (with_reducible exact ih1 _ _ _ _ _)
      | (with_reducible exact LeO.refl _)
      | (with_reducible exact LeO.none _)
      | (with_reducible refine LeO.ite ?_ ?_)
      | (with_reducible refine LeO.bind ?_ (fun _ => ?_))
      | exact ih0 _ _ _ _ _
      | exact ih1 _ _ _ _ _
      | exact LeO.none _
      | refine LeO.ite ?_ ?_
      | refine LeO.bind ?_ (fun _ => ?_)
set_option maxHeartbeats 8000000 in
set_option maxRecDepth 100000 in
theorem stratumref07_SameMap.calls (k : Nat) (a0_0 : Int) (A0_1 : Option Addr) (c0_1 : Nat) (l0_1 : List (S132)) (a1_0 : Int) (A1_1 : Option Addr) (c1_1 : Nat) (l1_1 : List (S132)) (r : Bool) (w : World) (hr0_1 : Kd.C k132 w A0_1 l0_1.length l0_1) (hc0_1 : l0_1.length ≤ c0_1) (hr1_1 : Kd.C k132 w A1_1 l1_1.length l1_1) (hc1_1 : l1_1.length ≤ c1_1) (h : stratumref07_SameMap.f k a0_0 l0_1 a1_0 l1_1 = some r) :
    Calls Tryd.prog 106 #[.agg #[.int .u32 a0_0, .slice A0_1 l0_1.length c0_1], .agg #[.int .u32 a1_0, .slice A1_1 l1_1.length c1_1]] w fun e w' => e = .returned (.bool r) ∧ Below w.heap.size w w' := by
  have hu54 := Tryd.underlying54
  have hu132 := Tryd.underlying132
  have HR0_1 := Aside0.mk hr0_1
  have HC0_1 := Aside0.mk hc0_1
  clear hr0_1 hc0_1
  have HR1_1 := Aside0.mk hr1_1
  have HC1_1 := Aside0.mk hc1_1
  clear hr1_1 hc1_1
  have HB := Aside0.mk (Below.refl w.heap.size w)
  have H : (if a0_0 = a1_0 then (stratumref07_SameMap.j0 k ((l0_1.length : Int) != (l1_1.length : Int)) a0_0 l0_1 a1_0 l1_1) else (stratumref07_SameMap.j0 k true a0_0 l0_1 a1_0 l1_1)) = some r := h
  clear h
  have HC3 := Aside0.mk H
  clear H
  go_enter Tryd.func106, Tryd.ntmps106
  go_upto_region 1 with (first | ((with_reducible refine gate_dst (N := 2) rfl ?_); (try (refine gate_guard (by rfl) ?_; dsimp only)); refine box_event ?hg (N := 2) ?hd (cs := #[.int .u32 a0_0, .slice A0_1 l0_1.length c0_1]) (t := 54) ?hr ?_; (case hd => rfl); (case hg => rfl); (case hr => first | (go_simp; done) | (go_simp; rfl)); intro gb216 hg w4 hbox hb; have n0_ := Aside0.mk (below_step (by repeat (first | (with_reducible first | exact HB.out | apply below_alloc | apply pw_below_drewN | apply below_drew1) | exact HB.out)) hb); have n1_ := Aside0.mk (hbox); have n2_ := Aside0.mk ((by rw [hg]; exact (below_size (by repeat (first | (with_reducible first | exact HB.out | apply below_alloc | apply pw_below_drewN | apply below_drew1) | exact HB.out))) : w.heap.size ≤ gb216)); have n3_ := Aside0.mk ((by rw [hg]; exact (below_size (by repeat (first | (with_reducible first | exact HB.out | apply below_alloc | apply pw_below_drewN | apply below_drew1) | exact HB.out))) : w.heap.size ≤ gb216)); clear HB; have HB := n0_; have BK216 := n1_; have GW216 := n2_; have GE216 := n3_; clear n0_ n1_ n2_ n3_; clear hb hbox hg) | ((with_reducible refine gate_dst (N := 3) rfl ?_); (try (refine gate_guard (by rfl) ?_; dsimp only)); refine box_event ?hg (N := 3) ?hd (cs := #[.int .u32 a1_0, .slice A1_1 l1_1.length c1_1]) (t := 54) ?hr ?_; (case hd => rfl); (case hg => rfl); (case hr => first | (go_simp; done) | (go_simp; rfl)); intro gb217 hg w5 hbox hb; have n0_ := Aside0.mk (blk_below (g := gb216) (o := .cells #[.int .u32 a0_0, .slice A0_1 l0_1.length c0_1] 54 (0, 0)) (by (with_reducible repeat (first | refine blk_drewN ?_ _ | refine blk_drew ?_ | refine blk_alloc ?_ _)); exact BK216.out) hb); have n1_ := Aside0.mk (below_step (by repeat (first | (with_reducible first | exact HB.out | apply below_alloc | apply pw_below_drewN | apply below_drew1 | refine below_set ?_ GE216.out) | exact HB.out)) hb); have n2_ := Aside0.mk (hbox); have n3_ := Aside0.mk ((by rw [hg]; exact (below_size (by repeat (first | (with_reducible first | exact HB.out | apply below_alloc | apply pw_below_drewN | apply below_drew1 | refine below_set ?_ GE216.out) | exact HB.out))) : w.heap.size ≤ gb217)); have n4_ := Aside0.mk ((by rw [hg]; exact (below_size (by repeat (first | (with_reducible first | exact HB.out | apply below_alloc | apply pw_below_drewN | apply below_drew1 | refine below_set ?_ GE216.out) | exact HB.out))) : w.heap.size ≤ gb217)); have n5_ := Aside0.mk ((by rw [hg]; exact Nat.ne_of_lt (blk_lt (g := gb216) (o := .cells #[.int .u32 a0_0, .slice A0_1 l0_1.length c0_1] 54 (0, 0)) (by (with_reducible repeat (first | refine blk_drewN ?_ _ | refine blk_drew ?_ | refine blk_alloc ?_ _)); exact BK216.out)) : gb216 ≠ gb217)); have n6_ := Aside0.mk ((by rw [hg]; exact Nat.ne_of_gt (blk_lt (g := gb216) (o := .cells #[.int .u32 a0_0, .slice A0_1 l0_1.length c0_1] 54 (0, 0)) (by (with_reducible repeat (first | refine blk_drewN ?_ _ | refine blk_drew ?_ | refine blk_alloc ?_ _)); exact BK216.out)) : gb217 ≠ gb216)); clear BK216; clear HB; have BK216 := n0_; have HB := n1_; have BK217 := n2_; have GW217 := n3_; have GE217 := n4_; have NB216_217 := n5_; have NB217_216 := n6_; clear n0_ n1_ n2_ n3_ n4_ n5_ n6_; clear hb hbox hg))
  repeat (go_quiet (first | ((with_reducible refine gate_dst (N := 2) rfl ?_); (try (refine gate_guard (by rfl) ?_; dsimp only)); refine box_event ?hg (N := 2) ?hd (cs := #[.int .u32 a0_0, .slice A0_1 l0_1.length c0_1]) (t := 54) ?hr ?_; (case hd => rfl); (case hg => rfl); (case hr => first | (go_simp; done) | (go_simp; rfl)); intro gb216 hg w4 hbox hb; have n0_ := Aside0.mk (below_step (by repeat (first | (with_reducible first | exact HB.out | apply below_alloc | apply pw_below_drewN | apply below_drew1) | exact HB.out)) hb); have n1_ := Aside0.mk (hbox); have n2_ := Aside0.mk ((by rw [hg]; exact (below_size (by repeat (first | (with_reducible first | exact HB.out | apply below_alloc | apply pw_below_drewN | apply below_drew1) | exact HB.out))) : w.heap.size ≤ gb216)); have n3_ := Aside0.mk ((by rw [hg]; exact (below_size (by repeat (first | (with_reducible first | exact HB.out | apply below_alloc | apply pw_below_drewN | apply below_drew1) | exact HB.out))) : w.heap.size ≤ gb216)); clear HB; have HB := n0_; have BK216 := n1_; have GW216 := n2_; have GE216 := n3_; clear n0_ n1_ n2_ n3_; clear hb hbox hg) | ((with_reducible refine gate_dst (N := 3) rfl ?_); (try (refine gate_guard (by rfl) ?_; dsimp only)); refine box_event ?hg (N := 3) ?hd (cs := #[.int .u32 a1_0, .slice A1_1 l1_1.length c1_1]) (t := 54) ?hr ?_; (case hd => rfl); (case hg => rfl); (case hr => first | (go_simp; done) | (go_simp; rfl)); intro gb217 hg w5 hbox hb; have n0_ := Aside0.mk (blk_below (g := gb216) (o := .cells #[.int .u32 a0_0, .slice A0_1 l0_1.length c0_1] 54 (0, 0)) (by (with_reducible repeat (first | refine blk_drewN ?_ _ | refine blk_drew ?_ | refine blk_alloc ?_ _)); exact BK216.out) hb); have n1_ := Aside0.mk (below_step (by repeat (first | (with_reducible first | exact HB.out | apply below_alloc | apply pw_below_drewN | apply below_drew1 | refine below_set ?_ GE216.out) | exact HB.out)) hb); have n2_ := Aside0.mk (hbox); have n3_ := Aside0.mk ((by rw [hg]; exact (below_size (by repeat (first | (with_reducible first | exact HB.out | apply below_alloc | apply pw_below_drewN | apply below_drew1 | refine below_set ?_ GE216.out) | exact HB.out))) : w.heap.size ≤ gb217)); have n4_ := Aside0.mk ((by rw [hg]; exact (below_size (by repeat (first | (with_reducible first | exact HB.out | apply below_alloc | apply pw_below_drewN | apply below_drew1 | refine below_set ?_ GE216.out) | exact HB.out))) : w.heap.size ≤ gb217)); have n5_ := Aside0.mk ((by rw [hg]; exact Nat.ne_of_lt (blk_lt (g := gb216) (o := .cells #[.int .u32 a0_0, .slice A0_1 l0_1.length c0_1] 54 (0, 0)) (by (with_reducible repeat (first | refine blk_drewN ?_ _ | refine blk_drew ?_ | refine blk_alloc ?_ _)); exact BK216.out)) : gb216 ≠ gb217)); have n6_ := Aside0.mk ((by rw [hg]; exact Nat.ne_of_gt (blk_lt (g := gb216) (o := .cells #[.int .u32 a0_0, .slice A0_1 l0_1.length c0_1] 54 (0, 0)) (by (with_reducible repeat (first | refine blk_drewN ?_ _ | refine blk_drew ?_ | refine blk_alloc ?_ _)); exact BK216.out)) : gb217 ≠ gb216)); clear BK216; clear HB; have BK216 := n0_; have HB := n1_; have BK217 := n2_; have GW217 := n3_; have GE217 := n4_; have NB216_217 := n5_; have NB217_216 := n6_; clear n0_ n1_ n2_ n3_ n4_ n5_ n6_; clear hb hbox hg)); go_upto_region 1 with (first | ((with_reducible refine gate_dst (N := 2) rfl ?_); (try (refine gate_guard (by rfl) ?_; dsimp only)); refine box_event ?hg (N := 2) ?hd (cs := #[.int .u32 a0_0, .slice A0_1 l0_1.length c0_1]) (t := 54) ?hr ?_; (case hd => rfl); (case hg => rfl); (case hr => first | (go_simp; done) | (go_simp; rfl)); intro gb216 hg w4 hbox hb; have n0_ := Aside0.mk (below_step (by repeat (first | (with_reducible first | exact HB.out | apply below_alloc | apply pw_below_drewN | apply below_drew1) | exact HB.out)) hb); have n1_ := Aside0.mk (hbox); have n2_ := Aside0.mk ((by rw [hg]; exact (below_size (by repeat (first | (with_reducible first | exact HB.out | apply below_alloc | apply pw_below_drewN | apply below_drew1) | exact HB.out))) : w.heap.size ≤ gb216)); have n3_ := Aside0.mk ((by rw [hg]; exact (below_size (by repeat (first | (with_reducible first | exact HB.out | apply below_alloc | apply pw_below_drewN | apply below_drew1) | exact HB.out))) : w.heap.size ≤ gb216)); clear HB; have HB := n0_; have BK216 := n1_; have GW216 := n2_; have GE216 := n3_; clear n0_ n1_ n2_ n3_; clear hb hbox hg) | ((with_reducible refine gate_dst (N := 3) rfl ?_); (try (refine gate_guard (by rfl) ?_; dsimp only)); refine box_event ?hg (N := 3) ?hd (cs := #[.int .u32 a1_0, .slice A1_1 l1_1.length c1_1]) (t := 54) ?hr ?_; (case hd => rfl); (case hg => rfl); (case hr => first | (go_simp; done) | (go_simp; rfl)); intro gb217 hg w5 hbox hb; have n0_ := Aside0.mk (blk_below (g := gb216) (o := .cells #[.int .u32 a0_0, .slice A0_1 l0_1.length c0_1] 54 (0, 0)) (by (with_reducible repeat (first | refine blk_drewN ?_ _ | refine blk_drew ?_ | refine blk_alloc ?_ _)); exact BK216.out) hb); have n1_ := Aside0.mk (below_step (by repeat (first | (with_reducible first | exact HB.out | apply below_alloc | apply pw_below_drewN | apply below_drew1 | refine below_set ?_ GE216.out) | exact HB.out)) hb); have n2_ := Aside0.mk (hbox); have n3_ := Aside0.mk ((by rw [hg]; exact (below_size (by repeat (first | (with_reducible first | exact HB.out | apply below_alloc | apply pw_below_drewN | apply below_drew1 | refine below_set ?_ GE216.out) | exact HB.out))) : w.heap.size ≤ gb217)); have n4_ := Aside0.mk ((by rw [hg]; exact (below_size (by repeat (first | (with_reducible first | exact HB.out | apply below_alloc | apply pw_below_drewN | apply below_drew1 | refine below_set ?_ GE216.out) | exact HB.out))) : w.heap.size ≤ gb217)); have n5_ := Aside0.mk ((by rw [hg]; exact Nat.ne_of_lt (blk_lt (g := gb216) (o := .cells #[.int .u32 a0_0, .slice A0_1 l0_1.length c0_1] 54 (0, 0)) (by (with_reducible repeat (first | refine blk_drewN ?_ _ | refine blk_drew ?_ | refine blk_alloc ?_ _)); exact BK216.out)) : gb216 ≠ gb217)); have n6_ := Aside0.mk ((by rw [hg]; exact Nat.ne_of_gt (blk_lt (g := gb216) (o := .cells #[.int .u32 a0_0, .slice A0_1 l0_1.length c0_1] 54 (0, 0)) (by (with_reducible repeat (first | refine blk_drewN ?_ _ | refine blk_drew ?_ | refine blk_alloc ?_ _)); exact BK216.out)) : gb217 ≠ gb216)); clear BK216; clear HB; have BK216 := n0_; have HB := n1_; have BK217 := n2_; have GW217 := n3_; have GE217 := n4_; have NB216_217 := n5_; have NB217_216 := n6_; clear n0_ n1_ n2_ n3_ n4_ n5_ n6_; clear hb hbox hg)))
  (try simp only [Act.put, List.setIfInBounds_toArray, List.set_cons_zero, List.set_cons_succ])
  go_cut [19] (fun v19 wc => ∃ (kq : Nat) (x19_2 : Bool), v19 = .bool x19_2 ∧ Aside0 (stratumref07_SameMap.j0 kq x19_2 a0_0 l0_1 a1_0 l1_1 = some r) ∧ Aside0 (kq ≤ k) ∧ Aside0 (wc.heap[gb216]? = some (.cells #[.int .u32 a0_0, (.slice A0_1 l0_1.length c0_1)] 54 (0, 0))) ∧ Aside0 (wc.heap[gb217]? = some (.cells #[.int .u32 a1_0, (.slice A1_1 l1_1.length c1_1)] 54 (0, 0))) ∧ Aside0 (Below w.heap.size w wc))
  case first =>
    have H := HC3.out
    clear HC3
    by_cases c6 : a0_0 = a1_0
    · rw [if_pos c6] at H
      have c6b0 : (a0_0 == a1_0) = true := beq_iff_eq.mpr c6
      have c6b1 : (a0_0 != a1_0) = false := bne_eq_false_iff_eq.mpr c6
      clear c6
      (first | rw [c6b0] | (simp only [i64_w, i32_w]; rw [c6b0]) | skip)
      have H' := Aside0.mk H
      clear H
      have hnb7 := NB216_217.out
      have hnc7 := NB217_216.out
      have hcz8_0 : w5.cell? ⟨gb216, 0, none⟩ = some (.int .u32 a0_0) := (blk_cell BK216.out 0).trans rfl
      have hcz8_1 : w5.cell? ⟨gb216, 1, none⟩ = some (.slice A0_1 l0_1.length c0_1) := (blk_cell BK216.out 1).trans rfl
      have hfz8_0 := blk_frozen BK216.out 0
      have hfz8_1 := blk_frozen BK216.out 1
      have hcz9_0 : w5.cell? ⟨gb217, 0, none⟩ = some (.int .u32 a1_0) := (blk_cell BK217.out 0).trans rfl
      have hcz9_1 : w5.cell? ⟨gb217, 1, none⟩ = some (.slice A1_1 l1_1.length c1_1) := (blk_cell BK217.out 1).trans rfl
      have hfz9_0 := blk_frozen BK217.out 0
      have hfz9_1 := blk_frozen BK217.out 1
      go_wp2
      repeat (go_quiet (fail); try go_wp2)
      go_meet
      case rel => exact ⟨_, (((l0_1.length : Int) != (l1_1.length : Int))), (by first | rfl | (simp; done) | (simp [*]; done)), H', ⟨by first | omega | exact Nat.le_refl _⟩, ⟨by (with_reducible repeat (first | refine blk_drewN ?_ _ | refine blk_drew ?_ | refine blk_alloc ?_ _)); exact BK216.out⟩, ⟨by (with_reducible repeat (first | refine blk_drewN ?_ _ | refine blk_drew ?_ | refine blk_alloc ?_ _)); exact BK217.out⟩, ⟨by repeat (first | (with_reducible first | exact HB.out | apply below_alloc | apply pw_below_drewN | apply below_drew1 | refine below_set ?_ GE216.out | refine below_set ?_ GE217.out) | exact HB.out)⟩⟩
    · rw [if_neg c6] at H
      have c6b0 : (a0_0 == a1_0) = false := beq_eq_false_iff_ne.mpr c6
      have c6b1 : (a0_0 != a1_0) = true := bne_iff_ne.mpr c6
      (first | rw [c6b0] | (simp only [i64_w, i32_w]; rw [c6b0]) | skip)
      have H' := Aside0.mk H
      clear H
      have hnb10 := NB216_217.out
      have hnc10 := NB217_216.out
      have hcz11_0 : w5.cell? ⟨gb216, 0, none⟩ = some (.int .u32 a0_0) := (blk_cell BK216.out 0).trans rfl
      have hcz11_1 : w5.cell? ⟨gb216, 1, none⟩ = some (.slice A0_1 l0_1.length c0_1) := (blk_cell BK216.out 1).trans rfl
      have hfz11_0 := blk_frozen BK216.out 0
      have hfz11_1 := blk_frozen BK216.out 1
      have hcz12_0 : w5.cell? ⟨gb217, 0, none⟩ = some (.int .u32 a1_0) := (blk_cell BK217.out 0).trans rfl
      have hcz12_1 : w5.cell? ⟨gb217, 1, none⟩ = some (.slice A1_1 l1_1.length c1_1) := (blk_cell BK217.out 1).trans rfl
      have hfz12_0 := blk_frozen BK217.out 0
      have hfz12_1 := blk_frozen BK217.out 1
      go_wp2
      repeat (go_quiet (fail); try go_wp2)
      go_meet
      case rel => exact ⟨_, (true), (by first | rfl | (simp; done) | (simp [*]; done)), H', ⟨by first | omega | exact Nat.le_refl _⟩, ⟨by (with_reducible repeat (first | refine blk_drewN ?_ _ | refine blk_drew ?_ | refine blk_alloc ?_ _)); exact BK216.out⟩, ⟨by (with_reducible repeat (first | refine blk_drewN ?_ _ | refine blk_drew ?_ | refine blk_alloc ?_ _)); exact BK217.out⟩, ⟨by repeat (first | (with_reducible first | exact HB.out | apply below_alloc | apply pw_below_drewN | apply below_drew1 | refine below_set ?_ GE216.out | refine below_set ?_ GE217.out) | exact HB.out)⟩⟩
  case rest =>
    clear HC3
    try clear c1
    try clear p2
    try clear c6
    try clear c6b0
    try clear c6b1
    try clear c7
    try clear c10
    try clear hcz11_0
    try clear hcz11_1
    try clear hcz12_0
    try clear hcz12_1
    try clear hcz8_0
    try clear hcz8_1
    try clear hcz9_0
    try clear hcz9_1
    try clear hfz11_0
    try clear hfz11_1
    try clear hfz12_0
    try clear hfz12_1
    try clear hfz8_0
    try clear hfz8_1
    try clear hfz9_0
    try clear hfz9_1
    obtain ⟨kq, x19_2, rfl, HA, HJ2, BK216, BK217, HB⟩ := hcut
    cases kq with
    | zero => exact absurd HA.out (by simp [stratumref07_SameMap.j0])
    | succ kj2 =>
      have H := HA.out
      clear HA
      simp only [stratumref07_SameMap.j0] at H
      by_cases c13 : x19_2 = true
      · subst c13
        have H1 : (some false) = some r := by rw [if_pos rfl] at H; exact H
        clear H
        have H := H1
        clear H1
        obtain rfl := Option.some.inj H
        go_wp2
        repeat (go_quiet (fail); try go_wp2)
        go_ret
        exact ⟨by first | rfl | (simp [errW_none, errW_some] <;> rfl) | (simp [*, errW_none, errW_some] <;> rfl), by repeat (first | (with_reducible first | exact HB.out | apply below_alloc | apply pw_below_drewN | apply below_drew1 | refine below_set ?_ GE216.out | refine below_set ?_ GE217.out) | exact HB.out)⟩
      · replace c13 := Bool.eq_false_iff.mpr c13
        subst c13
        have H1 : (stratumref07_SameMap.l0 kj2 0 a0_0 l0_1 a1_0 l1_1) = some r := by rw [if_neg (show ¬ (false = true) by decide)] at H; exact H
        clear H
        have H := H1
        clear H1
        have H' := Aside0.mk H
        clear H
        go_wp2
        repeat (go_quiet (fail); try go_wp2)
        go_loopg [5] kj2 (fun kq v5 w' => ∃ (x5_2 : Int), v5 = .int .i64 x5_2 ∧ Aside0 (stratumref07_SameMap.l0 kq x5_2 a0_0 l0_1 a1_0 l1_1 = some r) ∧ Aside0 (kq ≤ kj2) ∧ Aside0 (w'.heap[gb216]? = some (.cells #[.int .u32 a0_0, (.slice A0_1 l0_1.length c0_1)] 54 (0, 0))) ∧ Aside0 (w'.heap[gb217]? = some (.cells #[.int .u32 a1_0, (.slice A1_1 l1_1.length c1_1)] 54 (0, 0))) ∧ Aside0 (Below w.heap.size w w'))
        case atStart => exact ⟨(0), (by first | rfl | (simp; done) | (simp [*]; done)), H', ⟨Nat.le_refl _⟩, ⟨by (with_reducible repeat (first | refine blk_drewN ?_ _ | refine blk_drew ?_ | refine blk_alloc ?_ _)); exact BK216.out⟩, ⟨by (with_reducible repeat (first | refine blk_drewN ?_ _ | refine blk_drew ?_ | refine blk_alloc ?_ _)); exact BK217.out⟩, ⟨by repeat (first | (with_reducible first | exact HB.out | apply below_alloc | apply pw_below_drewN | apply below_drew1 | refine below_set ?_ GE216.out | refine below_set ?_ GE217.out) | exact HB.out)⟩⟩
        case round =>
          clear H'
          try clear c1
          try clear p2
          try clear c6
          try clear c6b0
          try clear c6b1
          try clear c7
          try clear c10
          try clear c13
          try clear hcz11_0
          try clear hcz11_1
          try clear hcz12_0
          try clear hcz12_1
          try clear hcz8_0
          try clear hcz8_1
          try clear hcz9_0
          try clear hcz9_1
          try clear hfz11_0
          try clear hfz11_1
          try clear hfz12_0
          try clear hfz12_1
          try clear hfz8_0
          try clear hfz8_1
          try clear hfz9_0
          try clear hfz9_1
          try clear p2
          obtain ⟨x5_2, rfl, HA, HK2, BK216, BK217, HB⟩ := hrel
          cases gk with
          | zero => exact absurd HA.out (by simp [stratumref07_SameMap.l0])
          | succ k2 =>
            have H := HA.out
            clear HA
            simp only [stratumref07_SameMap.l0] at H
            by_cases c14 : x5_2 < (l0_1.length : Int)
            · rw [if_pos c14] at H
              have c14b0 : decide (x5_2 < (l0_1.length : Int)) = true := decide_eq_true c14
              clear c14
              by_cases c15 : 0 ≤ x5_2
              · rw [if_pos c15] at H
                have c15b0 : decide (0 ≤ x5_2) = true := decide_eq_true c15
                clear c15
                by_cases c16 : x5_2 < (l1_1.length : Int)
                · rw [if_pos c16] at H
                  have c16b0 : decide (x5_2 < (l1_1.length : Int)) = true := decide_eq_true c16
                  clear c16
                  by_cases c17 : (!(((rd_T132 l0_1 x5_2).f0) == ((rd_T132 l1_1 x5_2).f0)) || (!(((rd_T132 l0_1 x5_2).f1) == ((rd_T132 l1_1 x5_2).f1)))) = true
                  · rw [if_pos c17] at H
                    have c17b0 : (!(((rd_T132 l0_1 x5_2).f0) == ((rd_T132 l1_1 x5_2).f0)) || (!(((rd_T132 l0_1 x5_2).f1) == ((rd_T132 l1_1 x5_2).f1)))) = true := c17
                    clear c17
                    obtain rfl := Option.some.inj H
                    have hnb18 := NB216_217.out
                    have hnc18 := NB217_216.out
                    have hcz19_0 : wr.cell? ⟨gb216, 0, none⟩ = some (.int .u32 a0_0) := (blk_cell BK216.out 0).trans rfl
                    have hcz19_1 : wr.cell? ⟨gb216, 1, none⟩ = some (.slice A0_1 l0_1.length c0_1) := (blk_cell BK216.out 1).trans rfl
                    have hfz19_0 := blk_frozen BK216.out 0
                    have hfz19_1 := blk_frozen BK216.out 1
                    have p218 : 0 ≤ (x5_2 : Int) := of_decide_eq_true (by first | (with_reducible assumption) | assumption)
                    have q218 : x5_2 < (l0_1.length : Int) := of_decide_eq_true (by first | (with_reducible assumption) | assumption)
                    obtain ⟨ad218, e218, hx218_0, hx218_1⟩ := at_T132 HR0_1.out x5_2 p218 q218
                    cases e218
                    replace hx218_0 := (HB.out.cell (World.block_lt_of_cell? w _ hx218_0)).trans hx218_0
                    replace hx218_1 := (HB.out.cell (World.block_lt_of_cell? w _ hx218_1)).trans hx218_1
                    replace p218 := eq_true p218
                    replace q218 := eq_true q218
                    have hcz20_0 : wr.cell? ⟨gb217, 0, none⟩ = some (.int .u32 a1_0) := (blk_cell BK217.out 0).trans rfl
                    have hcz20_1 : wr.cell? ⟨gb217, 1, none⟩ = some (.slice A1_1 l1_1.length c1_1) := (blk_cell BK217.out 1).trans rfl
                    have hfz20_0 := blk_frozen BK217.out 0
                    have hfz20_1 := blk_frozen BK217.out 1
                    have p219 : 0 ≤ (x5_2 : Int) := of_decide_eq_true (by first | (with_reducible assumption) | assumption)
                    have q219 : x5_2 < (l1_1.length : Int) := of_decide_eq_true (by first | (with_reducible assumption) | assumption)
                    obtain ⟨ad219, e219, hx219_0, hx219_1⟩ := at_T132 HR1_1.out x5_2 p219 q219
                    cases e219
                    replace hx219_0 := (HB.out.cell (World.block_lt_of_cell? w _ hx219_0)).trans hx219_0
                    replace hx219_1 := (HB.out.cell (World.block_lt_of_cell? w _ hx219_1)).trans hx219_1
                    replace p219 := eq_true p219
                    replace q219 := eq_true q219
                    go_wp2
                    repeat (go_quiet (fail); try go_wp2)
                    go_ret
                    exact ⟨by first | rfl | (simp [errW_none, errW_some] <;> rfl) | (simp [*, errW_none, errW_some] <;> rfl), by repeat (first | (with_reducible first | exact HB.out | apply below_alloc | apply pw_below_drewN | apply below_drew1 | refine below_set ?_ GE216.out | refine below_set ?_ GE217.out) | exact HB.out)⟩
                  · rw [if_neg c17] at H
                    have c17b0 : (!(((rd_T132 l0_1 x5_2).f0) == ((rd_T132 l1_1 x5_2).f0)) || (!(((rd_T132 l0_1 x5_2).f1) == ((rd_T132 l1_1 x5_2).f1)))) = false := by simpa using c17
                    clear c17
                    have H' := Aside0.mk H
                    clear H
                    have hnb21 := NB216_217.out
                    have hnc21 := NB217_216.out
                    have hcz22_0 : wr.cell? ⟨gb216, 0, none⟩ = some (.int .u32 a0_0) := (blk_cell BK216.out 0).trans rfl
                    have hcz22_1 : wr.cell? ⟨gb216, 1, none⟩ = some (.slice A0_1 l0_1.length c0_1) := (blk_cell BK216.out 1).trans rfl
                    have hfz22_0 := blk_frozen BK216.out 0
                    have hfz22_1 := blk_frozen BK216.out 1
                    have p218 : 0 ≤ (x5_2 : Int) := of_decide_eq_true (by first | (with_reducible assumption) | assumption)
                    have q218 : x5_2 < (l0_1.length : Int) := of_decide_eq_true (by first | (with_reducible assumption) | assumption)
                    obtain ⟨ad218, e218, hx218_0, hx218_1⟩ := at_T132 HR0_1.out x5_2 p218 q218
                    cases e218
                    replace hx218_0 := (HB.out.cell (World.block_lt_of_cell? w _ hx218_0)).trans hx218_0
                    replace hx218_1 := (HB.out.cell (World.block_lt_of_cell? w _ hx218_1)).trans hx218_1
                    replace p218 := eq_true p218
                    replace q218 := eq_true q218
                    have hcz23_0 : wr.cell? ⟨gb217, 0, none⟩ = some (.int .u32 a1_0) := (blk_cell BK217.out 0).trans rfl
                    have hcz23_1 : wr.cell? ⟨gb217, 1, none⟩ = some (.slice A1_1 l1_1.length c1_1) := (blk_cell BK217.out 1).trans rfl
                    have hfz23_0 := blk_frozen BK217.out 0
                    have hfz23_1 := blk_frozen BK217.out 1
                    have p219 : 0 ≤ (x5_2 : Int) := of_decide_eq_true (by first | (with_reducible assumption) | assumption)
                    have q219 : x5_2 < (l1_1.length : Int) := of_decide_eq_true (by first | (with_reducible assumption) | assumption)
                    obtain ⟨ad219, e219, hx219_0, hx219_1⟩ := at_T132 HR1_1.out x5_2 p219 q219
                    cases e219
                    replace hx219_0 := (HB.out.cell (World.block_lt_of_cell? w _ hx219_0)).trans hx219_0
                    replace hx219_1 := (HB.out.cell (World.block_lt_of_cell? w _ hx219_1)).trans hx219_1
                    replace p219 := eq_true p219
                    replace q219 := eq_true q219
                    go_wp2
                    repeat (go_quiet (fail); try go_wp2)
                    go_roundg k2
                    case measure => have := HJ2.out; have := HK2.out; omega
                    case rel => exact ⟨(wrap64 (x5_2 + 1)), (by first | rfl | (simp; done) | (simp [*]; done)), H', ⟨by have := HJ2.out; have := HK2.out; omega⟩, ⟨by (with_reducible repeat (first | refine blk_drewN ?_ _ | refine blk_drew ?_ | refine blk_alloc ?_ _)); exact BK216.out⟩, ⟨by (with_reducible repeat (first | refine blk_drewN ?_ _ | refine blk_drew ?_ | refine blk_alloc ?_ _)); exact BK217.out⟩, ⟨by repeat (first | (with_reducible first | exact HB.out | apply below_alloc | apply pw_below_drewN | apply below_drew1 | refine below_set ?_ GE216.out | refine below_set ?_ GE217.out) | exact HB.out)⟩⟩
                · rw [if_neg c16] at H
                  exact absurd H (by simp)
              · rw [if_neg c15] at H
                exact absurd H (by simp)
            · rw [if_neg c14] at H
              have c14b0 : decide (x5_2 < (l0_1.length : Int)) = false := decide_eq_false c14
              clear c14
              obtain rfl := Option.some.inj H
              have hnb24 := NB216_217.out
              have hnc24 := NB217_216.out
              have hcz25_0 : wr.cell? ⟨gb216, 0, none⟩ = some (.int .u32 a0_0) := (blk_cell BK216.out 0).trans rfl
              have hcz25_1 : wr.cell? ⟨gb216, 1, none⟩ = some (.slice A0_1 l0_1.length c0_1) := (blk_cell BK216.out 1).trans rfl
              have hfz25_0 := blk_frozen BK216.out 0
              have hfz25_1 := blk_frozen BK216.out 1
              go_wp2
              repeat (go_quiet (fail); try go_wp2)
              go_ret
              exact ⟨by first | rfl | (simp [errW_none, errW_some] <;> rfl) | (simp [*, errW_none, errW_some] <;> rfl), by repeat (first | (with_reducible first | exact HB.out | apply below_alloc | apply pw_below_drewN | apply below_drew1 | refine below_set ?_ GE216.out | refine below_set ?_ GE217.out) | exact HB.out)⟩
end Go.Proofs.YtbbhjceelghadaaDoor.K
end

section
-- from K34
namespace Go.Proofs.YtbbhjceelghadaaDoor.K
open Go.RowKit Go.Proofs.YtbbhjceelghadaaDoorW.PrintWords Go.Proofs.YtbbhjceelghadaaDoorW.PrintLast Go.Proofs.YtbbhjceelghadaaDoorW.PrintMore
attribute [local go_sem] max2_int min2_int max_two min_two max_three min_three max_four min_four
set_option linter.unusedVariables false
set_option linter.unusedSimpArgs false
def stratumref07_SoundNodes.l0 : Nat → List Int → Int → Option (Bool)
  | 0, _, _ => none
  | k + 1, x0, x3 => if x3 < (x0.length : Int) then (if 0 ≤ x3 then (if (rd x0 x3) < 0 then (some false) else (if (rd x0 x3) > 5 then (some false) else (if x3 > 0 then (if 0 ≤ (wrap64 (x3 - 1)) then (if (wrap64 (x3 - 1)) < (x0.length : Int) then (if (rd x0 x3) ≤ (rd x0 (wrap64 (x3 - 1))) then (some false) else (stratumref07_SoundNodes.l0 k x0 (wrap64 (x3 + 1)))) else (none)) else (none)) else (stratumref07_SoundNodes.l0 k x0 (wrap64 (x3 + 1)))))) else (none)) else (some true)
def stratumref07_SoundNodes.f (k : Nat) (l0 : List Int) : Option (Bool) := stratumref07_SoundNodes.l0 k l0 0
theorem stratumref07_SoundNodes.mono_l : ∀ k, (∀ y0 y1, LeO (stratumref07_SoundNodes.l0 k y0 y1) (stratumref07_SoundNodes.l0 (k + 1) y0 y1))
  | 0 => fun _ _ r h => by simp [stratumref07_SoundNodes.l0] at h
  | k + 1 => by
    have ih0 := stratumref07_SoundNodes.mono_l k
    · intro y0 y1
      unfold stratumref07_SoundNodes.l0
      repeat' first
      | (with_reducible exact ih0 _ _)
      | (with_reducible exact LeO.refl _)
      | (with_reducible exact LeO.none _)
      | (with_reducible refine LeO.ite ?_ ?_)
      | (with_reducible refine LeO.bind ?_ (fun _ => ?_))
      | exact ih0 _ _
      | exact LeO.none _
      | refine LeO.ite ?_ ?_
      | refine LeO.bind ?_ (fun _ => ?_)
theorem stratumref07_SoundNodes.mono : ∀ a0 k, LeO (stratumref07_SoundNodes.f k a0) (stratumref07_SoundNodes.f (k + 1) a0) := by
  intro a0 k
  have ih0 := stratumref07_SoundNodes.mono_l k
  unfold stratumref07_SoundNodes.f
  repeat' first
      | (with_reducible exact ih0 _ _)
      | (with_reducible exact LeO.refl _)
      | (with_reducible exact LeO.none _)
      | (with_reducible refine LeO.ite ?_ ?_)
      | (with_reducible refine LeO.bind ?_ (fun _ => ?_))
      | exact ih0 _ _
      | exact LeO.none _
      | refine LeO.ite ?_ ?_
      | refine LeO.bind ?_ (fun _ => ?_)
set_option maxHeartbeats 8000000 in
set_option maxRecDepth 100000 in
theorem stratumref07_SoundNodes.calls (k : Nat) (A0 : Option Addr) (c0 : Nat) (l0 : List Int) (r : Bool) (w : World) (hr0 : Kd.C (Kd.int .i64) w A0 l0.length l0) (hc0 : l0.length ≤ c0) (h : stratumref07_SoundNodes.f k l0 = some r) :
    Calls Tryd.prog 98 #[.slice A0 l0.length c0] w fun e w' => e = .returned (.bool r) ∧ Drawn0 w w' := by
  have HR0 := Aside0.mk hr0
  have HC0 := Aside0.mk hc0
  clear hr0 hc0
  have H : (stratumref07_SoundNodes.l0 k l0 0) = some r := h
  clear h
  have H' := Aside0.mk H
  clear H
  go_enter Tryd.func98, Tryd.ntmps98
  go_wp2
  repeat (go_quiet (fail); try go_wp2)
  go_loopg [3] k (fun kq v3 w' => ∃ (x3_1 : Int), v3 = .int .i64 x3_1 ∧ Aside0 (stratumref07_SoundNodes.l0 kq l0 x3_1 = some r) ∧ Aside0 (kq ≤ k) ∧ Drawn0 w w')
  case atStart => exact ⟨(0), (by first | rfl | (simp; done) | (simp [*]; done)), H', ⟨Nat.le_refl _⟩, by repeat (first | exact Drawn0.refl _ | apply Drawn0.step)⟩
  case round =>
    clear H'
    obtain ⟨x3_1, rfl, HA, HK1, ⟨m1, rfl⟩⟩ := hrel
    cases gk with
    | zero => exact absurd HA.out (by simp [stratumref07_SoundNodes.l0])
    | succ k1 =>
      have H := HA.out
      clear HA
      simp only [stratumref07_SoundNodes.l0] at H
      by_cases c2 : x3_1 < (l0.length : Int)
      · rw [if_pos c2] at H
        have c2b0 : decide (x3_1 < (l0.length : Int)) = true := decide_eq_true c2
        clear c2
        by_cases c3 : 0 ≤ x3_1
        · rw [if_pos c3] at H
          have c3b0 : decide (0 ≤ x3_1) = true := decide_eq_true c3
          clear c3
          by_cases c4 : (rd l0 x3_1) < 0
          · rw [if_pos c4] at H
            have c4b0 : decide ((rd l0 x3_1) < 0) = true := decide_eq_true c4
            clear c4
            obtain rfl := Option.some.inj H
            have p117 : 0 ≤ (x3_1 : Int) := of_decide_eq_true (by first | (with_reducible assumption) | assumption)
            have q117 : x3_1 < (l0.length : Int) := of_decide_eq_true (by first | (with_reducible assumption) | assumption)
            obtain ⟨ad117, e117, hx117_0⟩ := Kd.at_int HR0.out x3_1 p117 q117
            cases e117
            replace p117 := eq_true p117
            replace q117 := eq_true q117
            go_wp2
            repeat (go_quiet (fail); try go_wp2)
            go_ret
            exact ⟨by first | rfl | (simp; done) | (simp [*]; done), by repeat (first | exact Drawn0.refl _ | apply Drawn0.step)⟩
          · rw [if_neg c4] at H
            have c4b0 : decide ((rd l0 x3_1) < 0) = false := decide_eq_false c4
            clear c4
            by_cases c5 : (rd l0 x3_1) > 5
            · rw [if_pos c5] at H
              have c5b0 : decide (5 < (rd l0 x3_1)) = true := decide_eq_true c5
              clear c5
              obtain rfl := Option.some.inj H
              have p117 : 0 ≤ (x3_1 : Int) := of_decide_eq_true (by first | (with_reducible assumption) | assumption)
              have q117 : x3_1 < (l0.length : Int) := of_decide_eq_true (by first | (with_reducible assumption) | assumption)
              obtain ⟨ad117, e117, hx117_0⟩ := Kd.at_int HR0.out x3_1 p117 q117
              cases e117
              replace p117 := eq_true p117
              replace q117 := eq_true q117
              have p118 : 0 ≤ (x3_1 : Int) := of_decide_eq_true (by first | (with_reducible assumption) | assumption)
              have q118 : x3_1 < (l0.length : Int) := of_decide_eq_true (by first | (with_reducible assumption) | assumption)
              obtain ⟨ad118, e118, hx118_0⟩ := Kd.at_int HR0.out x3_1 p118 q118
              obtain rfl : ad117 = ad118 := (by injection e118)
              replace p118 := eq_true p118
              replace q118 := eq_true q118
              go_wp2
              repeat (go_quiet (fail); try go_wp2)
              go_ret
              exact ⟨by first | rfl | (simp; done) | (simp [*]; done), by repeat (first | exact Drawn0.refl _ | apply Drawn0.step)⟩
            · rw [if_neg c5] at H
              have c5b0 : decide (5 < (rd l0 x3_1)) = false := decide_eq_false c5
              clear c5
              by_cases c6 : x3_1 > 0
              · rw [if_pos c6] at H
                have c6b0 : decide (0 < x3_1) = true := decide_eq_true c6
                clear c6
                obtain ⟨ji7, hji7⟩ : ∃ j_ : Int, (wrap64 (x3_1 - 1)) = j_ := ⟨_, rfl⟩
                replace H : (if 0 ≤ (ji7) then (if (ji7) < (l0.length : Int) then (if (rd l0 x3_1) ≤ (rd l0 (ji7)) then (some false) else (stratumref07_SoundNodes.l0 k1 l0 (wrap64 (x3_1 + 1)))) else (none)) else (none)) = some r := by first | (rw [hji7] at H; exact H) | (simp only [hji7] at H ⊢; exact H)
                have hji7w : (IntKind.i64.wrap (x3_1 - 1)) = ji7 := (i64_w _).trans hji7
                by_cases c8 : 0 ≤ (ji7)
                · rw [if_pos c8] at H
                  have c8b0 : decide (0 ≤ (ji7)) = true := decide_eq_true c8
                  clear c8
                  by_cases c9 : (ji7) < (l0.length : Int)
                  · rw [if_pos c9] at H
                    have c9b0 : decide ((ji7) < (l0.length : Int)) = true := decide_eq_true c9
                    clear c9
                    by_cases c10 : (rd l0 x3_1) ≤ (rd l0 (ji7))
                    · rw [if_pos c10] at H
                      have c10b0 : decide ((rd l0 x3_1) ≤ (rd l0 (ji7))) = true := decide_eq_true c10
                      clear c10
                      obtain rfl := Option.some.inj H
                      have p117 : 0 ≤ (x3_1 : Int) := of_decide_eq_true (by first | (with_reducible assumption) | assumption)
                      have q117 : x3_1 < (l0.length : Int) := of_decide_eq_true (by first | (with_reducible assumption) | assumption)
                      obtain ⟨ad117, e117, hx117_0⟩ := Kd.at_int HR0.out x3_1 p117 q117
                      cases e117
                      replace p117 := eq_true p117
                      replace q117 := eq_true q117
                      have p118 : 0 ≤ (x3_1 : Int) := of_decide_eq_true (by first | (with_reducible assumption) | assumption)
                      have q118 : x3_1 < (l0.length : Int) := of_decide_eq_true (by first | (with_reducible assumption) | assumption)
                      obtain ⟨ad118, e118, hx118_0⟩ := Kd.at_int HR0.out x3_1 p118 q118
                      obtain rfl : ad117 = ad118 := (by injection e118)
                      replace p118 := eq_true p118
                      replace q118 := eq_true q118
                      have p119 : 0 ≤ (x3_1 : Int) := of_decide_eq_true (by first | (with_reducible assumption) | assumption)
                      have q119 : x3_1 < (l0.length : Int) := of_decide_eq_true (by first | (with_reducible assumption) | assumption)
                      obtain ⟨ad119, e119, hx119_0⟩ := Kd.at_int HR0.out x3_1 p119 q119
                      obtain rfl : ad117 = ad119 := (by injection e119)
                      replace p119 := eq_true p119
                      replace q119 := eq_true q119
                      have p120 : 0 ≤ ((ji7) : Int) := of_decide_eq_true (by first | (with_reducible assumption) | assumption)
                      have q120 : (ji7) < (l0.length : Int) := of_decide_eq_true (by first | (with_reducible assumption) | assumption)
                      obtain ⟨ad120, e120, hx120_0⟩ := Kd.at_int HR0.out (ji7) p120 q120
                      obtain rfl : ad117 = ad120 := (by injection e120)
                      replace p120 := eq_true p120
                      replace q120 := eq_true q120
                      go_wp2
                      repeat (go_quiet (fail); try go_wp2)
                      go_ret
                      exact ⟨by first | rfl | (simp; done) | (simp only [← hji7] <;> (first | rfl | simp)) | (simp [*]; done), by repeat (first | exact Drawn0.refl _ | apply Drawn0.step)⟩
                    · rw [if_neg c10] at H
                      have c10b0 : decide ((rd l0 x3_1) ≤ (rd l0 (ji7))) = false := decide_eq_false c10
                      clear c10
                      have H' := Aside0.mk H
                      clear H
                      have p117 : 0 ≤ (x3_1 : Int) := of_decide_eq_true (by first | (with_reducible assumption) | assumption)
                      have q117 : x3_1 < (l0.length : Int) := of_decide_eq_true (by first | (with_reducible assumption) | assumption)
                      obtain ⟨ad117, e117, hx117_0⟩ := Kd.at_int HR0.out x3_1 p117 q117
                      cases e117
                      replace p117 := eq_true p117
                      replace q117 := eq_true q117
                      have p118 : 0 ≤ (x3_1 : Int) := of_decide_eq_true (by first | (with_reducible assumption) | assumption)
                      have q118 : x3_1 < (l0.length : Int) := of_decide_eq_true (by first | (with_reducible assumption) | assumption)
                      obtain ⟨ad118, e118, hx118_0⟩ := Kd.at_int HR0.out x3_1 p118 q118
                      obtain rfl : ad117 = ad118 := (by injection e118)
                      replace p118 := eq_true p118
                      replace q118 := eq_true q118
                      have p119 : 0 ≤ (x3_1 : Int) := of_decide_eq_true (by first | (with_reducible assumption) | assumption)
                      have q119 : x3_1 < (l0.length : Int) := of_decide_eq_true (by first | (with_reducible assumption) | assumption)
                      obtain ⟨ad119, e119, hx119_0⟩ := Kd.at_int HR0.out x3_1 p119 q119
                      obtain rfl : ad117 = ad119 := (by injection e119)
                      replace p119 := eq_true p119
                      replace q119 := eq_true q119
                      have p120 : 0 ≤ ((ji7) : Int) := of_decide_eq_true (by first | (with_reducible assumption) | assumption)
                      have q120 : (ji7) < (l0.length : Int) := of_decide_eq_true (by first | (with_reducible assumption) | assumption)
                      obtain ⟨ad120, e120, hx120_0⟩ := Kd.at_int HR0.out (ji7) p120 q120
                      obtain rfl : ad117 = ad120 := (by injection e120)
                      replace p120 := eq_true p120
                      replace q120 := eq_true q120
                      go_wp2
                      repeat (go_quiet (fail); try go_wp2)
                      go_roundg k1
                      case measure => have := HK1.out; omega
                      case rel => exact ⟨(wrap64 (x3_1 + 1)), (by first | rfl | (simp; done) | (simp [*]; done)), H', ⟨by have := HK1.out; omega⟩, by repeat (first | exact Drawn0.refl _ | apply Drawn0.step)⟩
                  · rw [if_neg c9] at H
                    exact absurd H (by simp)
                · rw [if_neg c8] at H
                  exact absurd H (by simp)
              · rw [if_neg c6] at H
                have c6b0 : decide (0 < x3_1) = false := decide_eq_false c6
                clear c6
                have H' := Aside0.mk H
                clear H
                have p117 : 0 ≤ (x3_1 : Int) := of_decide_eq_true (by first | (with_reducible assumption) | assumption)
                have q117 : x3_1 < (l0.length : Int) := of_decide_eq_true (by first | (with_reducible assumption) | assumption)
                obtain ⟨ad117, e117, hx117_0⟩ := Kd.at_int HR0.out x3_1 p117 q117
                cases e117
                replace p117 := eq_true p117
                replace q117 := eq_true q117
                have p118 : 0 ≤ (x3_1 : Int) := of_decide_eq_true (by first | (with_reducible assumption) | assumption)
                have q118 : x3_1 < (l0.length : Int) := of_decide_eq_true (by first | (with_reducible assumption) | assumption)
                obtain ⟨ad118, e118, hx118_0⟩ := Kd.at_int HR0.out x3_1 p118 q118
                obtain rfl : ad117 = ad118 := (by injection e118)
                replace p118 := eq_true p118
                replace q118 := eq_true q118
                go_wp2
                repeat (go_quiet (fail); try go_wp2)
                go_roundg k1
                case measure => have := HK1.out; omega
                case rel => exact ⟨(wrap64 (x3_1 + 1)), (by first | rfl | (simp; done) | (simp [*]; done)), H', ⟨by have := HK1.out; omega⟩, by repeat (first | exact Drawn0.refl _ | apply Drawn0.step)⟩
        · rw [if_neg c3] at H
          exact absurd H (by simp)
      · rw [if_neg c2] at H
        have c2b0 : decide (x3_1 < (l0.length : Int)) = false := decide_eq_false c2
        clear c2
        obtain rfl := Option.some.inj H
        go_wp2
        repeat (go_quiet (fail); try go_wp2)
        go_ret
        exact ⟨by first | rfl | (simp; done) | (simp [*]; done), by repeat (first | exact Drawn0.refl _ | apply Drawn0.step)⟩
end Go.Proofs.YtbbhjceelghadaaDoor.K
end

section
-- from K35
namespace Go.Proofs.YtbbhjceelghadaaDoor.K
open Go.RowKit Go.Proofs.YtbbhjceelghadaaDoorW.PrintWords Go.Proofs.YtbbhjceelghadaaDoorW.PrintLast Go.Proofs.YtbbhjceelghadaaDoorW.PrintMore
attribute [local go_sem] max2_int min2_int max_two min_two max_three min_three max_four min_four
set_option linter.unusedVariables false
set_option linter.unusedSimpArgs false
mutual
def stratumref07_SoundFacts.l0 : Nat → List (S76) → Int → Option (Bool)
  | 0, _, _ => none
  | k + 1, x0, x3 => if x3 < (x0.length : Int) then (stratumref07_SoundFacts.l1 k x0 x3 0) else (some (decide ((x0.length : Int) ≤ 200)))
def stratumref07_SoundFacts.l1 : Nat → List (S76) → Int → Int → Option (Bool)
  | 0, _, _, _ => none
  | k + 1, x0, x3, x4 => if 0 ≤ x3 then (if x3 < (x0.length : Int) then (if x4 < (((rd_T76 x0 x3).f0).length : Int) then (if 0 ≤ x4 then (if (rd ((rd_T76 x0 x3).f0) x4) < 0 then (some false) else (if (rd ((rd_T76 x0 x3).f0) x4) > 9999 then (some false) else (stratumref07_SoundFacts.l1 k x0 x3 (wrap64 (x4 + 1))))) else (none)) else (if (((rd_T76 x0 x3).f0).length : Int) > 4 then (some false) else (stratumref07_SoundFacts.l0 k x0 (wrap64 (x3 + 1))))) else (none)) else (none)
end
def stratumref07_SoundFacts.f (k : Nat) (l0 : List (S76)) : Option (Bool) := stratumref07_SoundFacts.l0 k l0 0
theorem stratumref07_SoundFacts.mono_l : ∀ k, (∀ y0 y1, LeO (stratumref07_SoundFacts.l0 k y0 y1) (stratumref07_SoundFacts.l0 (k + 1) y0 y1)) ∧ (∀ y0 y1 y2, LeO (stratumref07_SoundFacts.l1 k y0 y1 y2) (stratumref07_SoundFacts.l1 (k + 1) y0 y1 y2))
  | 0 => ⟨fun _ _ r h => by simp [stratumref07_SoundFacts.l0] at h, fun _ _ _ r h => by simp [stratumref07_SoundFacts.l1] at h⟩
  | k + 1 => by
    obtain ⟨ih0, ih1⟩ := stratumref07_SoundFacts.mono_l k
    refine ⟨?_, ?_⟩
    · intro y0 y1
      unfold stratumref07_SoundFacts.l0
      repeat' first
      | (with_reducible exact ih0 _ _)
      | (with_reducible exact ih1 _ _ _)
      | (with_reducible exact LeO.refl _)
      | (with_reducible exact LeO.none _)
      | (with_reducible refine LeO.ite ?_ ?_)
      | (with_reducible refine LeO.bind ?_ (fun _ => ?_))
      | exact ih0 _ _
      | exact ih1 _ _ _
      | exact LeO.none _
      | refine LeO.ite ?_ ?_
      | refine LeO.bind ?_ (fun _ => ?_)
    · intro y0 y1 y2
      unfold stratumref07_SoundFacts.l1
      repeat' first
      | (with_reducible exact ih0 _ _)
      | (with_reducible exact ih1 _ _ _)
      | (with_reducible exact LeO.refl _)
      | (with_reducible exact LeO.none _)
      | (with_reducible refine LeO.ite ?_ ?_)
      | (with_reducible refine LeO.bind ?_ (fun _ => ?_))
      | exact ih0 _ _
      | exact ih1 _ _ _
      | exact LeO.none _
      | refine LeO.ite ?_ ?_
      | refine LeO.bind ?_ (fun _ => ?_)
theorem stratumref07_SoundFacts.mono : ∀ a0 k, LeO (stratumref07_SoundFacts.f k a0) (stratumref07_SoundFacts.f (k + 1) a0) := by
  intro a0 k
  obtain ⟨ih0, ih1⟩ := stratumref07_SoundFacts.mono_l k
  unfold stratumref07_SoundFacts.f
  repeat' first
      | (with_reducible exact ih0 _ _)
      | (with_reducible exact ih1 _ _ _)
      | (with_reducible exact LeO.refl _)
      | (with_reducible exact LeO.none _)
      | (with_reducible refine LeO.ite ?_ ?_)
      | (with_reducible refine LeO.bind ?_ (fun _ => ?_))
      | exact ih0 _ _
      | exact ih1 _ _ _
      | exact LeO.none _
      | refine LeO.ite ?_ ?_
      | refine LeO.bind ?_ (fun _ => ?_)
set_option maxHeartbeats 8000000 in
set_option maxRecDepth 100000 in
theorem stratumref07_SoundFacts.calls (k : Nat) (A0 : Option Addr) (c0 : Nat) (l0 : List (S76)) (r : Bool) (w : World) (hr0 : Kd.C k76 w A0 l0.length l0) (hc0 : l0.length ≤ c0) (h : stratumref07_SoundFacts.f k l0 = some r) :
    Calls Tryd.prog 99 #[.slice A0 l0.length c0] w fun e w' => e = .returned (.bool r) ∧ Drawn0 w w' := by
  have HR0 := Aside0.mk hr0
  have HC0 := Aside0.mk hc0
  clear hr0 hc0
  have H : (stratumref07_SoundFacts.l0 k l0 0) = some r := h
  clear h
  have H' := Aside0.mk H
  clear H
  go_enter Tryd.func99, Tryd.ntmps99
  go_wp2
  go_loopg [3] k (fun kq v3 w' => ∃ (x3_1 : Int), v3 = .int .i64 x3_1 ∧ Aside0 (stratumref07_SoundFacts.l0 kq l0 x3_1 = some r) ∧ Aside0 (kq ≤ k) ∧ Drawn0 w w')
  case atStart => exact ⟨(0), (by first | rfl | (simp; done) | (simp [*]; done)), H', ⟨Nat.le_refl _⟩, by repeat (first | exact Drawn0.refl _ | apply Drawn0.step)⟩
  case round =>
    clear H'
    obtain ⟨x3_1, rfl, HA, HK1, ⟨m1, rfl⟩⟩ := hrel
    cases gk with
    | zero => exact absurd HA.out (by simp [stratumref07_SoundFacts.l0])
    | succ k1 =>
      have H := HA.out
      clear HA
      simp only [stratumref07_SoundFacts.l0] at H
      by_cases c2 : x3_1 < (l0.length : Int)
      · rw [if_pos c2] at H
        have c2b0 : decide (x3_1 < (l0.length : Int)) = true := decide_eq_true c2
        clear c2
        have H' := Aside0.mk H
        clear H
        go_wp2
        go_loopg [4] k1 (fun kq v4 w' => ∃ (x4_2 : Int), v4 = .int .i64 x4_2 ∧ Aside0 (stratumref07_SoundFacts.l1 kq l0 x3_1 x4_2 = some r) ∧ Aside0 (kq ≤ k1) ∧ Drawn0 w w')
        case atStart => exact ⟨(0), (by first | rfl | (simp; done) | (simp [*]; done)), H', ⟨Nat.le_refl _⟩, by repeat (first | exact Drawn0.refl _ | apply Drawn0.step)⟩
        case round =>
          clear H'
          try clear c2
          try clear c2b0
          try clear p2
          obtain ⟨x4_2, rfl, HA, HK2, ⟨m2, rfl⟩⟩ := hrel
          cases gk with
          | zero => exact absurd HA.out (by simp [stratumref07_SoundFacts.l1])
          | succ k2 =>
            have H := HA.out
            clear HA
            simp only [stratumref07_SoundFacts.l1] at H
            by_cases c3 : 0 ≤ x3_1
            · rw [if_pos c3] at H
              have c3b0 : decide (0 ≤ x3_1) = true := decide_eq_true c3
              clear c3
              by_cases c4 : x3_1 < (l0.length : Int)
              · rw [if_pos c4] at H
                have c4b0 : decide (x3_1 < (l0.length : Int)) = true := decide_eq_true c4
                clear c4
                by_cases c5 : x4_2 < (((rd_T76 l0 x3_1).f0).length : Int)
                · rw [if_pos c5] at H
                  have c5b0 : decide (x4_2 < (((rd_T76 l0 x3_1).f0).length : Int)) = true := decide_eq_true c5
                  clear c5
                  by_cases c6 : 0 ≤ x4_2
                  · rw [if_pos c6] at H
                    have c6b0 : decide (0 ≤ x4_2) = true := decide_eq_true c6
                    clear c6
                    by_cases c7 : (rd ((rd_T76 l0 x3_1).f0) x4_2) < 0
                    · rw [if_pos c7] at H
                      have c7b0 : decide ((rd ((rd_T76 l0 x3_1).f0) x4_2) < 0) = true := decide_eq_true c7
                      clear c7
                      obtain rfl := Option.some.inj H
                      have p121 : 0 ≤ (x3_1 : Int) := of_decide_eq_true (by first | (with_reducible assumption) | assumption)
                      have q121 : x3_1 < (l0.length : Int) := of_decide_eq_true (by first | (with_reducible assumption) | assumption)
                      obtain ⟨ad121, A121_0, c121_0, e121, hx121_0, hx121_1, hl121_0, hi121_0⟩ := at_T76 HR0.out x3_1 p121 q121
                      cases e121
                      have HR121_0 := Aside0.mk hi121_0
                      have HC121_0 := Aside0.mk hl121_0
                      clear hi121_0 hl121_0
                      replace p121 := eq_true p121
                      replace q121 := eq_true q121
                      have p122 : 0 ≤ (x3_1 : Int) := of_decide_eq_true (by first | (with_reducible assumption) | assumption)
                      have q122 : x3_1 < (l0.length : Int) := of_decide_eq_true (by first | (with_reducible assumption) | assumption)
                      obtain ⟨ad122, A122_0, c122_0, e122, hx122_0, hx122_1, hl122_0, hi122_0⟩ := at_T76 HR0.out x3_1 p122 q122
                      obtain rfl : ad121 = ad122 := (by injection e122)
                      have HR122_0 := Aside0.mk hi122_0
                      have HC122_0 := Aside0.mk hl122_0
                      clear hi122_0 hl122_0
                      replace p122 := eq_true p122
                      replace q122 := eq_true q122
                      have ea_ := Option.some.inj (hx121_0.symm.trans hx122_0)
                      injection ea_ with ea_ en_ ec_
                      subst ea_
                      subst ec_
                      clear en_
                      have p123 : 0 ≤ (x4_2 : Int) := of_decide_eq_true (by first | (with_reducible assumption) | assumption)
                      have q123 : x4_2 < (((rd_T76 l0 x3_1).f0).length : Int) := of_decide_eq_true (by first | (with_reducible assumption) | assumption)
                      obtain ⟨ad123, e123, hx123_0⟩ := Kd.at_int HR122_0.out x4_2 p123 q123
                      cases e123
                      replace p123 := eq_true p123
                      replace q123 := eq_true q123
                      go_wp2
                      go_ret
                      exact ⟨by first | rfl | (simp; done) | (simp [*]; done), by repeat (first | exact Drawn0.refl _ | apply Drawn0.step)⟩
                    · rw [if_neg c7] at H
                      have c7b0 : decide ((rd ((rd_T76 l0 x3_1).f0) x4_2) < 0) = false := decide_eq_false c7
                      clear c7
                      by_cases c8 : (rd ((rd_T76 l0 x3_1).f0) x4_2) > 9999
                      · rw [if_pos c8] at H
                        have c8b0 : decide (9999 < (rd ((rd_T76 l0 x3_1).f0) x4_2)) = true := decide_eq_true c8
                        clear c8
                        obtain rfl := Option.some.inj H
                        have p121 : 0 ≤ (x3_1 : Int) := of_decide_eq_true (by first | (with_reducible assumption) | assumption)
                        have q121 : x3_1 < (l0.length : Int) := of_decide_eq_true (by first | (with_reducible assumption) | assumption)
                        obtain ⟨ad121, A121_0, c121_0, e121, hx121_0, hx121_1, hl121_0, hi121_0⟩ := at_T76 HR0.out x3_1 p121 q121
                        cases e121
                        have HR121_0 := Aside0.mk hi121_0
                        have HC121_0 := Aside0.mk hl121_0
                        clear hi121_0 hl121_0
                        replace p121 := eq_true p121
                        replace q121 := eq_true q121
                        have p122 : 0 ≤ (x3_1 : Int) := of_decide_eq_true (by first | (with_reducible assumption) | assumption)
                        have q122 : x3_1 < (l0.length : Int) := of_decide_eq_true (by first | (with_reducible assumption) | assumption)
                        obtain ⟨ad122, A122_0, c122_0, e122, hx122_0, hx122_1, hl122_0, hi122_0⟩ := at_T76 HR0.out x3_1 p122 q122
                        obtain rfl : ad121 = ad122 := (by injection e122)
                        have HR122_0 := Aside0.mk hi122_0
                        have HC122_0 := Aside0.mk hl122_0
                        clear hi122_0 hl122_0
                        replace p122 := eq_true p122
                        replace q122 := eq_true q122
                        have ea_ := Option.some.inj (hx121_0.symm.trans hx122_0)
                        injection ea_ with ea_ en_ ec_
                        subst ea_
                        subst ec_
                        clear en_
                        have p123 : 0 ≤ (x4_2 : Int) := of_decide_eq_true (by first | (with_reducible assumption) | assumption)
                        have q123 : x4_2 < (((rd_T76 l0 x3_1).f0).length : Int) := of_decide_eq_true (by first | (with_reducible assumption) | assumption)
                        obtain ⟨ad123, e123, hx123_0⟩ := Kd.at_int HR122_0.out x4_2 p123 q123
                        cases e123
                        replace p123 := eq_true p123
                        replace q123 := eq_true q123
                        have p124 : 0 ≤ (x3_1 : Int) := of_decide_eq_true (by first | (with_reducible assumption) | assumption)
                        have q124 : x3_1 < (l0.length : Int) := of_decide_eq_true (by first | (with_reducible assumption) | assumption)
                        obtain ⟨ad124, A124_0, c124_0, e124, hx124_0, hx124_1, hl124_0, hi124_0⟩ := at_T76 HR0.out x3_1 p124 q124
                        obtain rfl : ad121 = ad124 := (by injection e124)
                        have HR124_0 := Aside0.mk hi124_0
                        have HC124_0 := Aside0.mk hl124_0
                        clear hi124_0 hl124_0
                        replace p124 := eq_true p124
                        replace q124 := eq_true q124
                        have ea_ := Option.some.inj (hx121_0.symm.trans hx124_0)
                        injection ea_ with ea_ en_ ec_
                        subst ea_
                        subst ec_
                        clear en_
                        have p125 : 0 ≤ (x4_2 : Int) := of_decide_eq_true (by first | (with_reducible assumption) | assumption)
                        have q125 : x4_2 < (((rd_T76 l0 x3_1).f0).length : Int) := of_decide_eq_true (by first | (with_reducible assumption) | assumption)
                        obtain ⟨ad125, e125, hx125_0⟩ := Kd.at_int HR124_0.out x4_2 p125 q125
                        cases e125
                        replace p125 := eq_true p125
                        replace q125 := eq_true q125
                        go_wp2
                        go_ret
                        exact ⟨by first | rfl | (simp; done) | (simp [*]; done), by repeat (first | exact Drawn0.refl _ | apply Drawn0.step)⟩
                      · rw [if_neg c8] at H
                        have c8b0 : decide (9999 < (rd ((rd_T76 l0 x3_1).f0) x4_2)) = false := decide_eq_false c8
                        clear c8
                        have H' := Aside0.mk H
                        clear H
                        have p121 : 0 ≤ (x3_1 : Int) := of_decide_eq_true (by first | (with_reducible assumption) | assumption)
                        have q121 : x3_1 < (l0.length : Int) := of_decide_eq_true (by first | (with_reducible assumption) | assumption)
                        obtain ⟨ad121, A121_0, c121_0, e121, hx121_0, hx121_1, hl121_0, hi121_0⟩ := at_T76 HR0.out x3_1 p121 q121
                        cases e121
                        have HR121_0 := Aside0.mk hi121_0
                        have HC121_0 := Aside0.mk hl121_0
                        clear hi121_0 hl121_0
                        replace p121 := eq_true p121
                        replace q121 := eq_true q121
                        have p122 : 0 ≤ (x3_1 : Int) := of_decide_eq_true (by first | (with_reducible assumption) | assumption)
                        have q122 : x3_1 < (l0.length : Int) := of_decide_eq_true (by first | (with_reducible assumption) | assumption)
                        obtain ⟨ad122, A122_0, c122_0, e122, hx122_0, hx122_1, hl122_0, hi122_0⟩ := at_T76 HR0.out x3_1 p122 q122
                        obtain rfl : ad121 = ad122 := (by injection e122)
                        have HR122_0 := Aside0.mk hi122_0
                        have HC122_0 := Aside0.mk hl122_0
                        clear hi122_0 hl122_0
                        replace p122 := eq_true p122
                        replace q122 := eq_true q122
                        have ea_ := Option.some.inj (hx121_0.symm.trans hx122_0)
                        injection ea_ with ea_ en_ ec_
                        subst ea_
                        subst ec_
                        clear en_
                        have p123 : 0 ≤ (x4_2 : Int) := of_decide_eq_true (by first | (with_reducible assumption) | assumption)
                        have q123 : x4_2 < (((rd_T76 l0 x3_1).f0).length : Int) := of_decide_eq_true (by first | (with_reducible assumption) | assumption)
                        obtain ⟨ad123, e123, hx123_0⟩ := Kd.at_int HR122_0.out x4_2 p123 q123
                        cases e123
                        replace p123 := eq_true p123
                        replace q123 := eq_true q123
                        have p124 : 0 ≤ (x3_1 : Int) := of_decide_eq_true (by first | (with_reducible assumption) | assumption)
                        have q124 : x3_1 < (l0.length : Int) := of_decide_eq_true (by first | (with_reducible assumption) | assumption)
                        obtain ⟨ad124, A124_0, c124_0, e124, hx124_0, hx124_1, hl124_0, hi124_0⟩ := at_T76 HR0.out x3_1 p124 q124
                        obtain rfl : ad121 = ad124 := (by injection e124)
                        have HR124_0 := Aside0.mk hi124_0
                        have HC124_0 := Aside0.mk hl124_0
                        clear hi124_0 hl124_0
                        replace p124 := eq_true p124
                        replace q124 := eq_true q124
                        have ea_ := Option.some.inj (hx121_0.symm.trans hx124_0)
                        injection ea_ with ea_ en_ ec_
                        subst ea_
                        subst ec_
                        clear en_
                        have p125 : 0 ≤ (x4_2 : Int) := of_decide_eq_true (by first | (with_reducible assumption) | assumption)
                        have q125 : x4_2 < (((rd_T76 l0 x3_1).f0).length : Int) := of_decide_eq_true (by first | (with_reducible assumption) | assumption)
                        obtain ⟨ad125, e125, hx125_0⟩ := Kd.at_int HR124_0.out x4_2 p125 q125
                        cases e125
                        replace p125 := eq_true p125
                        replace q125 := eq_true q125
                        go_wp2
                        go_roundg k2
                        case measure => have := HK1.out; have := HK2.out; omega
                        case rel => exact ⟨(wrap64 (x4_2 + 1)), (by first | rfl | (simp; done) | (simp [*]; done)), H', ⟨by have := HK1.out; have := HK2.out; omega⟩, by repeat (first | exact Drawn0.refl _ | apply Drawn0.step)⟩
                  · rw [if_neg c6] at H
                    exact absurd H (by simp)
                · rw [if_neg c5] at H
                  have c5b0 : decide (x4_2 < (((rd_T76 l0 x3_1).f0).length : Int)) = false := decide_eq_false c5
                  clear c5
                  by_cases c9 : (((rd_T76 l0 x3_1).f0).length : Int) > 4
                  · rw [if_pos c9] at H
                    have c9b0 : decide (4 < (((rd_T76 l0 x3_1).f0).length : Int)) = true := decide_eq_true c9
                    have c9b1 : decide (4 < ((rd_T76 l0 x3_1).f0).length) = true := decide_eq_true (by omega)
                    clear c9
                    obtain rfl := Option.some.inj H
                    have p121 : 0 ≤ (x3_1 : Int) := of_decide_eq_true (by first | (with_reducible assumption) | assumption)
                    have q121 : x3_1 < (l0.length : Int) := of_decide_eq_true (by first | (with_reducible assumption) | assumption)
                    obtain ⟨ad121, A121_0, c121_0, e121, hx121_0, hx121_1, hl121_0, hi121_0⟩ := at_T76 HR0.out x3_1 p121 q121
                    cases e121
                    have HR121_0 := Aside0.mk hi121_0
                    have HC121_0 := Aside0.mk hl121_0
                    clear hi121_0 hl121_0
                    replace p121 := eq_true p121
                    replace q121 := eq_true q121
                    have p126 : 0 ≤ (x3_1 : Int) := of_decide_eq_true (by first | (with_reducible assumption) | assumption)
                    have q126 : x3_1 < (l0.length : Int) := of_decide_eq_true (by first | (with_reducible assumption) | assumption)
                    obtain ⟨ad126, A126_0, c126_0, e126, hx126_0, hx126_1, hl126_0, hi126_0⟩ := at_T76 HR0.out x3_1 p126 q126
                    obtain rfl : ad121 = ad126 := (by injection e126)
                    have HR126_0 := Aside0.mk hi126_0
                    have HC126_0 := Aside0.mk hl126_0
                    clear hi126_0 hl126_0
                    replace p126 := eq_true p126
                    replace q126 := eq_true q126
                    have ea_ := Option.some.inj (hx121_0.symm.trans hx126_0)
                    injection ea_ with ea_ en_ ec_
                    subst ea_
                    subst ec_
                    clear en_
                    go_wp2
                    go_ret
                    exact ⟨by first | rfl | (simp; done) | (simp [*]; done), by repeat (first | exact Drawn0.refl _ | apply Drawn0.step)⟩
                  · rw [if_neg c9] at H
                    have c9b0 : decide (4 < (((rd_T76 l0 x3_1).f0).length : Int)) = false := decide_eq_false c9
                    have c9b1 : decide (4 < ((rd_T76 l0 x3_1).f0).length) = false := decide_eq_false (by omega)
                    clear c9
                    have H' := Aside0.mk H
                    clear H
                    have p121 : 0 ≤ (x3_1 : Int) := of_decide_eq_true (by first | (with_reducible assumption) | assumption)
                    have q121 : x3_1 < (l0.length : Int) := of_decide_eq_true (by first | (with_reducible assumption) | assumption)
                    obtain ⟨ad121, A121_0, c121_0, e121, hx121_0, hx121_1, hl121_0, hi121_0⟩ := at_T76 HR0.out x3_1 p121 q121
                    cases e121
                    have HR121_0 := Aside0.mk hi121_0
                    have HC121_0 := Aside0.mk hl121_0
                    clear hi121_0 hl121_0
                    replace p121 := eq_true p121
                    replace q121 := eq_true q121
                    have p126 : 0 ≤ (x3_1 : Int) := of_decide_eq_true (by first | (with_reducible assumption) | assumption)
                    have q126 : x3_1 < (l0.length : Int) := of_decide_eq_true (by first | (with_reducible assumption) | assumption)
                    obtain ⟨ad126, A126_0, c126_0, e126, hx126_0, hx126_1, hl126_0, hi126_0⟩ := at_T76 HR0.out x3_1 p126 q126
                    obtain rfl : ad121 = ad126 := (by injection e126)
                    have HR126_0 := Aside0.mk hi126_0
                    have HC126_0 := Aside0.mk hl126_0
                    clear hi126_0 hl126_0
                    replace p126 := eq_true p126
                    replace q126 := eq_true q126
                    have ea_ := Option.some.inj (hx121_0.symm.trans hx126_0)
                    injection ea_ with ea_ en_ ec_
                    subst ea_
                    subst ec_
                    clear en_
                    go_wp2
                    go_roundg k2
                    case measure => have := HK1.out; have := HK2.out; omega
                    case rel => exact ⟨(wrap64 (x3_1 + 1)), (by first | rfl | (simp; done) | (simp [*]; done)), H', ⟨by have := HK1.out; have := HK2.out; omega⟩, by repeat (first | exact Drawn0.refl _ | apply Drawn0.step)⟩
              · rw [if_neg c4] at H
                exact absurd H (by simp)
            · rw [if_neg c3] at H
              exact absurd H (by simp)
      · rw [if_neg c2] at H
        have c2b0 : decide (x3_1 < (l0.length : Int)) = false := decide_eq_false c2
        clear c2
        obtain rfl := Option.some.inj H
        go_wp2
        go_ret
        exact ⟨by first | rfl | (simp; done) | (simp [*]; done), by repeat (first | exact Drawn0.refl _ | apply Drawn0.step)⟩
end Go.Proofs.YtbbhjceelghadaaDoor.K
end

section
-- from K36
namespace Go.Proofs.YtbbhjceelghadaaDoor.K
open Go.RowKit Go.Proofs.YtbbhjceelghadaaDoorW.PrintWords Go.Proofs.YtbbhjceelghadaaDoorW.PrintLast Go.Proofs.YtbbhjceelghadaaDoorW.PrintMore
attribute [local go_sem] max2_int min2_int max_two min_two max_three min_three max_four min_four
set_option linter.unusedVariables false
set_option linter.unusedSimpArgs false
def stratumref07_spans.l0 : Nat → List (S132) → Int → Option (Bool)
  | 0, _, _ => none
  | k + 1, x0, x3 => if x3 < (x0.length : Int) then (if 0 ≤ x3 then (if ((rd_T132 x0 x3).f0) < 0 then (some false) else (if ((rd_T132 x0 x3).f0) > 9999 then (some false) else (if ((rd_T132 x0 x3).f1) < 0 then (some false) else (if ((rd_T132 x0 x3).f1) > 5 then (some false) else (stratumref07_spans.l0 k x0 (wrap64 (x3 + 1))))))) else (none)) else (some (decide ((x0.length : Int) ≤ 40)))
def stratumref07_spans.f (k : Nat) (l0 : List (S132)) : Option (Bool) := stratumref07_spans.l0 k l0 0
theorem stratumref07_spans.mono_l : ∀ k, (∀ y0 y1, LeO (stratumref07_spans.l0 k y0 y1) (stratumref07_spans.l0 (k + 1) y0 y1))
  | 0 => fun _ _ r h => by simp [stratumref07_spans.l0] at h
  | k + 1 => by
    have ih0 := stratumref07_spans.mono_l k
    · intro y0 y1
      unfold stratumref07_spans.l0
      repeat' first
      | (with_reducible exact ih0 _ _)
      | (with_reducible exact LeO.refl _)
      | (with_reducible exact LeO.none _)
      | (with_reducible refine LeO.ite ?_ ?_)
      | (with_reducible refine LeO.bind ?_ (fun _ => ?_))
      | exact ih0 _ _
      | exact LeO.none _
      | refine LeO.ite ?_ ?_
      | refine LeO.bind ?_ (fun _ => ?_)
theorem stratumref07_spans.mono : ∀ a0 k, LeO (stratumref07_spans.f k a0) (stratumref07_spans.f (k + 1) a0) := by
  intro a0 k
  have ih0 := stratumref07_spans.mono_l k
  unfold stratumref07_spans.f
  repeat' first
      | (with_reducible exact ih0 _ _)
      | (with_reducible exact LeO.refl _)
      | (with_reducible exact LeO.none _)
      | (with_reducible refine LeO.ite ?_ ?_)
      | (with_reducible refine LeO.bind ?_ (fun _ => ?_))
      | exact ih0 _ _
      | exact LeO.none _
      | refine LeO.ite ?_ ?_
      | refine LeO.bind ?_ (fun _ => ?_)
set_option maxHeartbeats 8000000 in
set_option maxRecDepth 100000 in
theorem stratumref07_spans.calls (k : Nat) (A0 : Option Addr) (c0 : Nat) (l0 : List (S132)) (r : Bool) (w : World) (hr0 : Kd.C k132 w A0 l0.length l0) (hc0 : l0.length ≤ c0) (h : stratumref07_spans.f k l0 = some r) :
    Calls Tryd.prog 100 #[.slice A0 l0.length c0] w fun e w' => e = .returned (.bool r) ∧ Drawn0 w w' := by
  have HR0 := Aside0.mk hr0
  have HC0 := Aside0.mk hc0
  clear hr0 hc0
  have H : (stratumref07_spans.l0 k l0 0) = some r := h
  clear h
  have H' := Aside0.mk H
  clear H
  go_enter Tryd.func100, Tryd.ntmps100
  go_wp2
  go_loopg [3] k (fun kq v3 w' => ∃ (x3_1 : Int), v3 = .int .i64 x3_1 ∧ Aside0 (stratumref07_spans.l0 kq l0 x3_1 = some r) ∧ Aside0 (kq ≤ k) ∧ Drawn0 w w')
  case atStart => exact ⟨(0), (by first | rfl | (simp; done) | (simp [*]; done)), H', ⟨Nat.le_refl _⟩, by repeat (first | exact Drawn0.refl _ | apply Drawn0.step)⟩
  case round =>
    clear H'
    try clear c1
    obtain ⟨x3_1, rfl, HA, HK1, ⟨m1, rfl⟩⟩ := hrel
    cases gk with
    | zero => exact absurd HA.out (by simp [stratumref07_spans.l0])
    | succ k1 =>
      have H := HA.out
      clear HA
      simp only [stratumref07_spans.l0] at H
      by_cases c2 : x3_1 < (l0.length : Int)
      · rw [if_pos c2] at H
        have c2b0 : decide (x3_1 < (l0.length : Int)) = true := decide_eq_true c2
        clear c2
        by_cases c3 : 0 ≤ x3_1
        · rw [if_pos c3] at H
          have c3b0 : decide (0 ≤ x3_1) = true := decide_eq_true c3
          clear c3
          by_cases c4 : ((rd_T132 l0 x3_1).f0) < 0
          · rw [if_pos c4] at H
            have c4b0 : decide (((rd_T132 l0 x3_1).f0) < 0) = true := decide_eq_true c4
            clear c4
            obtain rfl := Option.some.inj H
            have p127 : 0 ≤ (x3_1 : Int) := of_decide_eq_true (by first | (with_reducible assumption) | assumption)
            have q127 : x3_1 < (l0.length : Int) := of_decide_eq_true (by first | (with_reducible assumption) | assumption)
            obtain ⟨ad127, e127, hx127_0, hx127_1⟩ := at_T132 HR0.out x3_1 p127 q127
            cases e127
            replace p127 := eq_true p127
            replace q127 := eq_true q127
            go_wp2
            go_ret
            exact ⟨by first | rfl | (simp; done) | (simp [*]; done), by repeat (first | exact Drawn0.refl _ | apply Drawn0.step)⟩
          · rw [if_neg c4] at H
            have c4b0 : decide (((rd_T132 l0 x3_1).f0) < 0) = false := decide_eq_false c4
            clear c4
            by_cases c5 : ((rd_T132 l0 x3_1).f0) > 9999
            · rw [if_pos c5] at H
              have c5b0 : decide (9999 < ((rd_T132 l0 x3_1).f0)) = true := decide_eq_true c5
              clear c5
              obtain rfl := Option.some.inj H
              have p127 : 0 ≤ (x3_1 : Int) := of_decide_eq_true (by first | (with_reducible assumption) | assumption)
              have q127 : x3_1 < (l0.length : Int) := of_decide_eq_true (by first | (with_reducible assumption) | assumption)
              obtain ⟨ad127, e127, hx127_0, hx127_1⟩ := at_T132 HR0.out x3_1 p127 q127
              cases e127
              replace p127 := eq_true p127
              replace q127 := eq_true q127
              have p128 : 0 ≤ (x3_1 : Int) := of_decide_eq_true (by first | (with_reducible assumption) | assumption)
              have q128 : x3_1 < (l0.length : Int) := of_decide_eq_true (by first | (with_reducible assumption) | assumption)
              obtain ⟨ad128, e128, hx128_0, hx128_1⟩ := at_T132 HR0.out x3_1 p128 q128
              obtain rfl : ad127 = ad128 := (by injection e128)
              replace p128 := eq_true p128
              replace q128 := eq_true q128
              go_wp2
              go_ret
              exact ⟨by first | rfl | (simp; done) | (simp [*]; done), by repeat (first | exact Drawn0.refl _ | apply Drawn0.step)⟩
            · rw [if_neg c5] at H
              have c5b0 : decide (9999 < ((rd_T132 l0 x3_1).f0)) = false := decide_eq_false c5
              clear c5
              by_cases c6 : ((rd_T132 l0 x3_1).f1) < 0
              · rw [if_pos c6] at H
                have c6b0 : decide (((rd_T132 l0 x3_1).f1) < 0) = true := decide_eq_true c6
                clear c6
                obtain rfl := Option.some.inj H
                have p127 : 0 ≤ (x3_1 : Int) := of_decide_eq_true (by first | (with_reducible assumption) | assumption)
                have q127 : x3_1 < (l0.length : Int) := of_decide_eq_true (by first | (with_reducible assumption) | assumption)
                obtain ⟨ad127, e127, hx127_0, hx127_1⟩ := at_T132 HR0.out x3_1 p127 q127
                cases e127
                replace p127 := eq_true p127
                replace q127 := eq_true q127
                have p128 : 0 ≤ (x3_1 : Int) := of_decide_eq_true (by first | (with_reducible assumption) | assumption)
                have q128 : x3_1 < (l0.length : Int) := of_decide_eq_true (by first | (with_reducible assumption) | assumption)
                obtain ⟨ad128, e128, hx128_0, hx128_1⟩ := at_T132 HR0.out x3_1 p128 q128
                obtain rfl : ad127 = ad128 := (by injection e128)
                replace p128 := eq_true p128
                replace q128 := eq_true q128
                have p129 : 0 ≤ (x3_1 : Int) := of_decide_eq_true (by first | (with_reducible assumption) | assumption)
                have q129 : x3_1 < (l0.length : Int) := of_decide_eq_true (by first | (with_reducible assumption) | assumption)
                obtain ⟨ad129, e129, hx129_0, hx129_1⟩ := at_T132 HR0.out x3_1 p129 q129
                obtain rfl : ad127 = ad129 := (by injection e129)
                replace p129 := eq_true p129
                replace q129 := eq_true q129
                go_wp2
                go_ret
                exact ⟨by first | rfl | (simp; done) | (simp [*]; done), by repeat (first | exact Drawn0.refl _ | apply Drawn0.step)⟩
              · rw [if_neg c6] at H
                have c6b0 : decide (((rd_T132 l0 x3_1).f1) < 0) = false := decide_eq_false c6
                clear c6
                by_cases c7 : ((rd_T132 l0 x3_1).f1) > 5
                · rw [if_pos c7] at H
                  have c7b0 : decide (5 < ((rd_T132 l0 x3_1).f1)) = true := decide_eq_true c7
                  clear c7
                  obtain rfl := Option.some.inj H
                  have p127 : 0 ≤ (x3_1 : Int) := of_decide_eq_true (by first | (with_reducible assumption) | assumption)
                  have q127 : x3_1 < (l0.length : Int) := of_decide_eq_true (by first | (with_reducible assumption) | assumption)
                  obtain ⟨ad127, e127, hx127_0, hx127_1⟩ := at_T132 HR0.out x3_1 p127 q127
                  cases e127
                  replace p127 := eq_true p127
                  replace q127 := eq_true q127
                  have p128 : 0 ≤ (x3_1 : Int) := of_decide_eq_true (by first | (with_reducible assumption) | assumption)
                  have q128 : x3_1 < (l0.length : Int) := of_decide_eq_true (by first | (with_reducible assumption) | assumption)
                  obtain ⟨ad128, e128, hx128_0, hx128_1⟩ := at_T132 HR0.out x3_1 p128 q128
                  obtain rfl : ad127 = ad128 := (by injection e128)
                  replace p128 := eq_true p128
                  replace q128 := eq_true q128
                  have p129 : 0 ≤ (x3_1 : Int) := of_decide_eq_true (by first | (with_reducible assumption) | assumption)
                  have q129 : x3_1 < (l0.length : Int) := of_decide_eq_true (by first | (with_reducible assumption) | assumption)
                  obtain ⟨ad129, e129, hx129_0, hx129_1⟩ := at_T132 HR0.out x3_1 p129 q129
                  obtain rfl : ad127 = ad129 := (by injection e129)
                  replace p129 := eq_true p129
                  replace q129 := eq_true q129
                  have p130 : 0 ≤ (x3_1 : Int) := of_decide_eq_true (by first | (with_reducible assumption) | assumption)
                  have q130 : x3_1 < (l0.length : Int) := of_decide_eq_true (by first | (with_reducible assumption) | assumption)
                  obtain ⟨ad130, e130, hx130_0, hx130_1⟩ := at_T132 HR0.out x3_1 p130 q130
                  obtain rfl : ad127 = ad130 := (by injection e130)
                  replace p130 := eq_true p130
                  replace q130 := eq_true q130
                  go_wp2
                  go_ret
                  exact ⟨by first | rfl | (simp; done) | (simp [*]; done), by repeat (first | exact Drawn0.refl _ | apply Drawn0.step)⟩
                · rw [if_neg c7] at H
                  have c7b0 : decide (5 < ((rd_T132 l0 x3_1).f1)) = false := decide_eq_false c7
                  clear c7
                  have H' := Aside0.mk H
                  clear H
                  have p127 : 0 ≤ (x3_1 : Int) := of_decide_eq_true (by first | (with_reducible assumption) | assumption)
                  have q127 : x3_1 < (l0.length : Int) := of_decide_eq_true (by first | (with_reducible assumption) | assumption)
                  obtain ⟨ad127, e127, hx127_0, hx127_1⟩ := at_T132 HR0.out x3_1 p127 q127
                  cases e127
                  replace p127 := eq_true p127
                  replace q127 := eq_true q127
                  have p128 : 0 ≤ (x3_1 : Int) := of_decide_eq_true (by first | (with_reducible assumption) | assumption)
                  have q128 : x3_1 < (l0.length : Int) := of_decide_eq_true (by first | (with_reducible assumption) | assumption)
                  obtain ⟨ad128, e128, hx128_0, hx128_1⟩ := at_T132 HR0.out x3_1 p128 q128
                  obtain rfl : ad127 = ad128 := (by injection e128)
                  replace p128 := eq_true p128
                  replace q128 := eq_true q128
                  have p129 : 0 ≤ (x3_1 : Int) := of_decide_eq_true (by first | (with_reducible assumption) | assumption)
                  have q129 : x3_1 < (l0.length : Int) := of_decide_eq_true (by first | (with_reducible assumption) | assumption)
                  obtain ⟨ad129, e129, hx129_0, hx129_1⟩ := at_T132 HR0.out x3_1 p129 q129
                  obtain rfl : ad127 = ad129 := (by injection e129)
                  replace p129 := eq_true p129
                  replace q129 := eq_true q129
                  have p130 : 0 ≤ (x3_1 : Int) := of_decide_eq_true (by first | (with_reducible assumption) | assumption)
                  have q130 : x3_1 < (l0.length : Int) := of_decide_eq_true (by first | (with_reducible assumption) | assumption)
                  obtain ⟨ad130, e130, hx130_0, hx130_1⟩ := at_T132 HR0.out x3_1 p130 q130
                  obtain rfl : ad127 = ad130 := (by injection e130)
                  replace p130 := eq_true p130
                  replace q130 := eq_true q130
                  go_wp2
                  go_roundg k1
                  case measure => have := HK1.out; omega
                  case rel => exact ⟨(wrap64 (x3_1 + 1)), (by first | rfl | (simp; done) | (simp [*]; done)), H', ⟨by have := HK1.out; omega⟩, by repeat (first | exact Drawn0.refl _ | apply Drawn0.step)⟩
        · rw [if_neg c3] at H
          exact absurd H (by simp)
      · rw [if_neg c2] at H
        have c2b0 : decide (x3_1 < (l0.length : Int)) = false := decide_eq_false c2
        clear c2
        obtain rfl := Option.some.inj H
        go_wp2
        go_ret
        exact ⟨by first | rfl | (simp; done) | (simp [*]; done), by repeat (first | exact Drawn0.refl _ | apply Drawn0.step)⟩
end Go.Proofs.YtbbhjceelghadaaDoor.K
end
