/- Parts of the proof, one behind the other: Base, Row, Card, Order, BufG, DiskG, DiskH, DiskW, DiskX, DiskY, DiskZ, DiskF, BytesC, DiskB, DiskC, DiskN, DiskO, DiskQ, DiskR, DiskM, DiskK, DiskP, Came, DiskI. -/
import Derived.Test.YtbbhjceelghadaaDoorQDiskCuts1
import Derived.Test.YtbbhjceelghadaaDoorProg
import Derived.WalkSpells
import Derived.WalkLawsBesides
import Derived.RegionTactic
import Derived.ChangeAlike
import Derived.Lib.Hide
import Derived.Lib.SlBytesConst
import Derived.ProofKit
import Derived.OpenShut
import Derived.ShutString
import Derived.ChangeOld
import Derived.SizedLaws
import Derived.ChangeSlices
import Derived.Test.YtbbhjceelghadaaDoorCards
import Derived.Test.YtbbhjceelghadaaDoorTie
import Derived.LaidMore
import Derived.Stop.Joined
import Derived.Deep.DeepHandedRow
import Derived.Test.YtbbhjceelghadaaDoorRows
import Derived.JoinedCond
import Derived.Shelf.LaysM
import Derived.Shelf.Bytes.Len
import Derived.Shelf.Bytes.TryGrow
import Derived.Shelf.Bytes.GrowSliceCatch
import Derived.Shelf.Bytes.GrowSlice
import Derived.Shelf.Bytes.LenAt
import Derived.Shelf.Bytes.TryGrowAt
import Derived.Lib.BufferGrow
import Derived.Lib.BufferWrite
import Derived.Laws.CopyRow
import Derived.Lib.BufferSrc
import Derived.Lib.SliceRun
import Derived.Deep.Slices
import Derived.ChangeSame
import Derived.Deep.Strs
set_option linter.unusedVariables false
set_option linter.unusedSimpArgs false
section
-- from Base
namespace Go.Proofs.YtbbhjceelghadaaDoor.My
open Go Go.RowKit Go.Proofs.YtbbhjceelghadaaDoorW.PrintWords
/-- A byte in a cell. -/
def kb : Kd UInt8 := Kd.scalar (fun b => Value.int .u8 (b.toNat : Int)) (fun _ => rfl)
theorem C_at {w : World} {A : Option Addr} {n : Nat} {l : List UInt8} (h : kb.C w A n l) (i : Nat) (hi : i < n) : ∃ ad, A = some ad ∧ w.cell? (ad.add i) = some (.int .u8 (l.getD i 0).toNat) := by
  obtain ⟨ad, c, e, hl, hK, hc⟩ := Kd.C_get h 0 (i : Int) (by omega) (by omega)
  have hK' : c = [.int .u8 (l.getD i 0).toNat] := hK
  subst hK'
  have := hc 0 _ rfl
  simp only [Int.toNat_natCast, Nat.add_zero] at this
  rw [show kb.sz = 1 from rfl, Nat.mul_one] at this
  exact ⟨ad, e, this⟩
/-- A new row of bytes. -/
theorem C_new {W : World} {b e : Nat} {cells : Array Value} {fz : Nat × Nat} {l : List UInt8} {n : Nat} (hb : b = W.heap.size) (hn : n = l.length) (hm : l.length ≤ 9223372036854775807) (hc : cells.toList = l.map fun x => Value.int .u8 (x.toNat : Int)) :
    kb.C (W.alloc (.cells cells e fz)) (some ⟨b, 0, none⟩) n l := by
  subst hb; subst hn
  refine ⟨rfl, hm, fun _ => ⟨_, rfl, fun j p hj => ⟨[.int .u8 (p.toNat : Int)], rfl, rfl, fun i u hi => ?_⟩⟩⟩
  have hi0 : i = 0 := by
    rcases i with _ | i
    · rfl
    · simp at hi
  subst hi0
  have hu : u = .int .u8 (p.toNat : Int) := by simpa using hi.symm
  subst hu
  have e1 : cells[j]? = some (.int .u8 (p.toNat : Int)) := by rw [← Array.getElem?_toList, hc, List.getElem?_map, hj]; rfl
  rw [add_plain, show kb.sz = 1 from rfl, Nat.mul_one, Nat.add_zero]
  show (match (W.heap.push _)[W.heap.size]? with | some (.cells c _ _) => _ | _ => _) = _
  simp [e1]
/-- The cells of a slice of slices of bytes. -/
def Cs (W : World) (cs : List Value) (ls : List (List UInt8)) : Prop :=
  cs.length = ls.length ∧ ∀ (i : Nat) (l : List UInt8), ls[i]? = some l → ∃ A c, cs[i]? = some (.slice A l.length c) ∧ l.length ≤ c ∧ kb.C W A l.length l
theorem Cs.nil (W : World) : Cs W [] [] := ⟨rfl, fun i l h => by simp at h⟩
theorem Cs.cons {W : World} {cs : List Value} {ls : List (List UInt8)} {A : Option Addr} {c n : Nat} {l : List UInt8} (h : kb.C W A n l) (hc : n ≤ c) (hs : Cs W cs ls) : Cs W (.slice A n c :: cs) (l :: ls) := by
  have hn := h.1
  subst hn
  refine ⟨by simp [hs.1], fun i x hx => ?_⟩
  rcases i with _ | i
  · obtain rfl : l = x := by simpa using hx
    exact ⟨A, c, rfl, hc, h⟩
  · exact hs.2 i x (by simpa using hx)
theorem heap_new' {W : World} {o : Obj} {b : Nat} (hb : b = W.heap.size) : (W.alloc o).heap[b]? = some o := by
  subst hb
  show (W.heap.push o)[W.heap.size]? = _
  simp
theorem heap_below {W W' : World} {o : Obj} {b : Nat} (hb : Below W.heap.size W W') (h : W.heap[b]? = some o) : W'.heap[b]? = some o := (hb.block b (blk_lt h)).trans h
theorem info_bytes : (Tryd.prog.info? 5).map (·.size) = some 1 := by kernel_rfl
theorem cut_h (A : Option Addr) (n c hi : Nat) (hiI : Int) (e1 : hiI = hi) (h1 : hi ≤ n) (hc : n ≤ c) :
    ∀ W : World, (Instr.slice 23 (.slice A n c) none (some (.int .i64 hiI)) none).run Tryd.prog W = .ok (.slice A hi c) W := by
  subst e1
  intro W
  obtain ⟨i, hi0, hsz⟩ := Option.map_eq_some_iff.1 info_bytes
  have hel : Tryd.prog.elem 23 = 5 := by simp [Program.elem, Tryd.underlying23]
  have hu : Tryd.prog.underlying 23 = some (.slice (Tryd.prog.elem 23)) := by rw [hel]; exact Tryd.underlying23
  rw [run_slice_h W 23 A n c hu .i64 (hi : Int) (Int.natCast_nonneg _) (by omega), hel]
  simp [sizeOf, typeInfo, hi0, hsz, sliced, Result.andThen]
  intro _
  cases A with
  | none => rfl
  | some a => simp [Addr.add]
theorem C_take_n {w : World} {A : Option Addr} {l : List UInt8} (h : kb.C w A l.length l) (n : Nat) (hn : n ≤ l.length) : kb.C w A n (l.take n) := by
  have := Kd.C_take h hn
  rwa [show (l.take n).length = n from by rw [List.length_take]; omega] at this
/-- Bytes as a string. -/
def bs (l : List UInt8) : ByteArray := ⟨l.toArray⟩
theorem bs_size (l : List UInt8) : (bs l).size = l.length := by simp [bs, ByteArray.size]
theorem ints_of_kb {w : World} {A : Option Addr} {n : Nat} {l : List UInt8} (h : kb.C w A n l) : ReadsInt w .u8 A n (l.map fun b => (b.toNat : Int)) := by
  refine ⟨by rw [List.length_map]; exact h.1, h.2.1, fun hn => ?_⟩
  obtain ⟨ad, e, _⟩ := h.2.2 hn
  refine ⟨ad, e, fun i hi => ?_⟩
  obtain ⟨ad', e', hc⟩ := C_at h i hi
  obtain rfl : ad = ad' := by rw [e] at e'; injection e'
  rw [hc, List.getD_eq_getElem?_getD, List.getD_eq_getElem?_getD, List.getElem?_map]
  rw [List.getElem?_eq_getElem (by have := h.1; omega)]
  rfl
theorem str_of_nums (l : List UInt8) : strOfNums (l.map fun b => (b.toNat : Int)) = bs l := by
  unfold strOfNums bs
  congr 1
  apply Array.ext'
  simp only [List.map_map]
  conv => rhs; rw [← List.map_id l]
  apply List.map_congr_left
  intro b _
  simp
theorem conv_string {w : World} {A : Option Addr} {n c : Nat} {l : List UInt8} (h : kb.C w A n l) : (convert 23 9 (.slice A n c)).run Tryd.prog w = .ok (.string (bs l)) w := by
  rw [← str_of_nums]
  exact string_of_reads Tryd.underlying23 Tryd.underlying5 Tryd.underlying9 (ints_of_kb h)
theorem below_bytesWorld {w W : World} (h : Below w.heap.size w W) (e : TypeId) (s : ByteArray) : Below w.heap.size w (Lib.bytesWorld W e s) := bytes_below h h.size e s
theorem kb_R {w : World} {base : Nat} {ok : Nat → Prop} {e n c : Nat} {A : Option Addr} {l : List UInt8} (h : kb.R e w base ok (.slice A n c) l) : n = l.length ∧ n ≤ c ∧ kb.C w A l.length l := by
  obtain ⟨A', c', e', h1, h2⟩ := Kd.R_reads h
  injection e' with e1 e2 e3
  subst e1; subst e2; subst e3
  exact ⟨rfl, h1, h2⟩
/-- All blocks but one are as they were, and no block has come or gone. -/
structure Only (b : Nat) (w w' : World) : Prop where
  os : w'.os = w.os
  tape : w'.tape = w.tape
  output : w'.output = w.output
  size : w'.heap.size = w.heap.size
  block : ∀ k, k ≠ b → w'.heap[k]? = w.heap[k]?
theorem Only.refl (b : Nat) (w : World) : Only b w w := ⟨rfl, rfl, rfl, rfl, fun _ _ => rfl⟩
theorem Only.set {b : Nat} {w w' : World} (h : Only b w w') (o : Nat) (v : Value) : Only b w (w'.setCell ⟨b, o, none⟩ v) :=
  ⟨h.os, h.tape, h.output, by simp [World.setCell, h.size], fun k hk => by rw [Below.heap_setCell _ _ _ _ hk]; exact h.block k hk⟩
theorem Only.drew {b : Nat} {w w' : World} (h : Only b w w') : Only b w w'.drew := ⟨h.os, h.tape, h.output, h.size, h.block⟩
theorem Only.below {b B : Nat} {w0 w w' : World} (h : Only b w w') (hB : B ≤ b) (h0 : Below B w0 w) : Below B w0 w' :=
  ⟨h.os.trans h0.os, h.tape.trans h0.tape, h.output.trans h0.output, by rw [h.size]; exact h0.size, fun k hk => (h.block k (by omega)).trans (h0.block k hk)⟩
end Go.Proofs.YtbbhjceelghadaaDoor.My
end

section
-- from Row
namespace Go.Proofs.YtbbhjceelghadaaDoor.My
open Go Go.RowKit Go.Proofs.YtbbhjceelghadaaDoorW.PrintWords
theorem own : ownKnob Tryd.prog.godebug = none := by kernel_rfl
theorem laidOut : laidOutB Tryd.prog = true := by kernel_rfl
theorem wf_u8 {n : Int} (h : (Lit.int .u8 n).wf = true) : 0 ≤ n ∧ n < 256 := by
  have := bounds_u8 h
  omega
theorem wf_i64 {n : Int} (h : (Lit.int .i64 n).wf = true) : -9223372036854775808 ≤ n ∧ n ≤ 9223372036854775807 := by
  have := bounds_i64 h
  omega
theorem byte_back {n : Int} (h : (Lit.int .u8 n).wf = true) : ((UInt8.ofNat n.toNat).toNat : Int) = n := by
  have := wf_u8 h
  rw [UInt8.toNat_ofNat']
  omega
end Go.Proofs.YtbbhjceelghadaaDoor.My
end

section
-- from Card
namespace Go.Proofs.YtbbhjceelghadaaDoor.My
open Go Go.RowKit
theorem door_met (os : Os) (args : Array Value) : laidMetH Tryd.prog [("bytes.ErrTooLarge", Rows.laid_bytes_ErrTooLarge)] ((World.doorLaid Tryd.prog 400 os).forCall (fun _ _ => 0) ⟨#[], args, []⟩).memory :=
  show laidMetH Tryd.prog [("bytes.ErrTooLarge", Rows.laid_bytes_ErrTooLarge)] _ from laidMetH_of_parts3 (fuel := 8) (laidMet_of_run' 8 (by kernel_rfl) (by kernel_rfl)) (by kernel_rfl) (by kernel_rfl)
theorem door_shaped (os : Os) (args : Array Value) : ((World.doorLaid Tryd.prog 400 os).forCall (fun _ _ => 0) ⟨#[], args, []⟩).Shaped Tryd.prog := World.shaped_of_RefB (by kernel_rfl) (by kernel_rfl)
theorem witness_door {H : Type} {enc : TypeId × Value → H} {os : Os} {f : FuncId} {fn : Func} {s : OpenSpec} (args : Array Value) {x : List (DataW H) × List (DataW H) × List MemPlace}
    (hok : Input.okWideB Tryd.prog ((World.doorLaid Tryd.prog 400 os).forCall (fun _ _ => 0) ⟨#[], args, []⟩) f ⟨#[], args, []⟩ = true)
    (hx : DataW.whole enc Tryd.prog ((World.doorLaid Tryd.prog 400 os).forCall (fun _ _ => 0) ⟨#[], args, []⟩).memory fn.params.toList s.vars false args.toList 8 = some x)
    (hkk : ∀ k, s.cond = some k → k H (x.1 ++ x.2.1) = true)
    (hsz : s.bare.sizedB enc Tryd.prog fn false ((World.doorLaid Tryd.prog 400 os).forCall (fun _ _ => 0) ⟨#[], args, []⟩).memory args 8 = true) :
    ∃ (w : World) (tape : Tape) (i : Input), w.os = os ∧ (w.forCall tape i).Shaped Tryd.prog ∧ i.vars = [] ∧ Input.okWide Tryd.prog (w.forCall tape i) .any w.heap.size f i ∧
      s.preRow enc Tryd.prog fn [] false [("bytes.ErrTooLarge", Rows.laid_bytes_ErrTooLarge)] (w.forCall tape i).memory i.args ∧ ({} : Assume).holds Tryd.prog (lone (Frame.enter Tryd.prog f i.args .normal) [] (w.forCall tape i)) :=
  ⟨World.doorLaid Tryd.prog 400 os, fun _ _ => 0, ⟨#[], args, []⟩, rfl, door_shaped os args, (Input.okWide_of_okWideB (base := 0) hok).1, (Input.okWide_of_okWideB hok).2,
    OpenSpec.preRow_of_cond 8 hx rfl hkk hsz (door_met os args), by
    simp only [Assume.holds]
    exact ⟨by simp, by simp, fun _ => Modest.zero, by simp, by simp⟩⟩
end Go.Proofs.YtbbhjceelghadaaDoor.My
end

section
-- from Order
namespace Go.Proofs.YtbbhjceelghadaaDoor.My
open Go
set_option maxRecDepth 100000
theorem words_cons (c : Char) (h : c ≠ Char.ofNat 32) {r w : List Char} {ws : List (List Char)} (hr : wordsSigns r = w :: ws) : wordsSigns (c :: r) = (c :: w) :: ws := by
  unfold wordsSigns
  split
  · rename_i heq; cases heq
  · rename_i heq; injection heq with h1 _; exact absurd h1 h
  · rename_i heq; injection heq with h1 h2; subst h1; subst h2; rw [hr]
theorem words_cut : ∀ (w : List Char), (w.all fun c => decide (c ≠ Char.ofNat 32)) = true → ∀ r, wordsSigns (w ++ Char.ofNat 32 :: r) = w :: wordsSigns r
  | [], _, r => rfl
  | c :: w, h, r => by
    simp only [List.all_cons, Bool.and_eq_true, decide_eq_true_eq] at h
    exact words_cons c h.1 (words_cut w h.2 r)
def word0 : List Char := [Char.ofNat 104, Char.ofNat 97, Char.ofNat 114, Char.ofNat 110, Char.ofNat 101, Char.ofNat 115, Char.ofNat 115]
def word1 : List Char := [Char.ofNat 101, Char.ofNat 50, Char.ofNat 98, Char.ofNat 56, Char.ofNat 55, Char.ofNat 49, Char.ofNat 99, Char.ofNat 98, Char.ofNat 56, Char.ofNat 48, Char.ofNat 100, Char.ofNat 51, Char.ofNat 55, Char.ofNat 54, Char.ofNat 100, Char.ofNat 53, Char.ofNat 97, Char.ofNat 100, Char.ofNat 57, Char.ofNat 49,
    Char.ofNat 49, Char.ofNat 56, Char.ofNat 52, Char.ofNat 49, Char.ofNat 98, Char.ofNat 100, Char.ofNat 57, Char.ofNat 48, Char.ofNat 49, Char.ofNat 48, Char.ofNat 97, Char.ofNat 52, Char.ofNat 56, Char.ofNat 98, Char.ofNat 54, Char.ofNat 54, Char.ofNat 53, Char.ofNat 48, Char.ofNat 55, Char.ofNat 102,
    Char.ofNat 98, Char.ofNat 49, Char.ofNat 52, Char.ofNat 97, Char.ofNat 48, Char.ofNat 97, Char.ofNat 102, Char.ofNat 49, Char.ofNat 51, Char.ofNat 98, Char.ofNat 51, Char.ofNat 54, Char.ofNat 102, Char.ofNat 57, Char.ofNat 99, Char.ofNat 54, Char.ofNat 52, Char.ofNat 49, Char.ofNat 52, Char.ofNat 101,
    Char.ofNat 100, Char.ofNat 49, Char.ofNat 98, Char.ofNat 48]
def word2 : List Char := [Char.ofNat 99, Char.ofNat 117, Char.ofNat 116]
def behind : List Char := [Char.ofNat 97, Char.ofNat 116, Char.ofNat 32, Char.ofNat 115, Char.ofNat 116, Char.ofNat 114, Char.ofNat 97, Char.ofNat 116, Char.ofNat 117, Char.ofNat 109, Char.ofNat 47, Char.ofNat 115, Char.ofNat 116, Char.ofNat 114, Char.ofNat 97, Char.ofNat 116, Char.ofNat 117, Char.ofNat 109, Char.ofNat 108, Char.ofNat 97,
    Char.ofNat 119, Char.ofNat 49, Char.ofNat 48, Char.ofNat 46, Char.ofNat 68, Char.ofNat 105, Char.ofNat 115, Char.ofNat 107, Char.ofNat 76, Char.ofNat 97, Char.ofNat 115, Char.ofNat 116, Char.ofNat 115, Char.ofNat 32, Char.ofNat 115, Char.ofNat 116, Char.ofNat 114, Char.ofNat 97, Char.ofNat 116, Char.ofNat 117,
    Char.ofNat 109, Char.ofNat 47, Char.ofNat 115, Char.ofNat 116, Char.ofNat 114, Char.ofNat 97, Char.ofNat 116, Char.ofNat 117, Char.ofNat 109, Char.ofNat 108, Char.ofNat 97, Char.ofNat 119, Char.ofNat 49, Char.ofNat 48, Char.ofNat 46, Char.ofNat 68, Char.ofNat 105, Char.ofNat 115, Char.ofNat 107, Char.ofNat 82,
    Char.ofNat 111, Char.ofNat 111, Char.ofNat 109, Char.ofNat 32, Char.ofNat 115, Char.ofNat 116, Char.ofNat 114, Char.ofNat 97, Char.ofNat 116, Char.ofNat 117, Char.ofNat 109, Char.ofNat 47, Char.ofNat 115, Char.ofNat 116, Char.ofNat 114, Char.ofNat 97, Char.ofNat 116, Char.ofNat 117, Char.ofNat 109, Char.ofNat 108,
    Char.ofNat 97, Char.ofNat 119, Char.ofNat 49, Char.ofNat 48, Char.ofNat 46, Char.ofNat 68, Char.ofNat 105, Char.ofNat 115, Char.ofNat 107, Char.ofNat 67, Char.ofNat 97, Char.ofNat 108, Char.ofNat 108, Char.ofNat 115, Char.ofNat 32, Char.ofNat 115, Char.ofNat 116, Char.ofNat 114, Char.ofNat 97, Char.ofNat 116,
    Char.ofNat 117, Char.ofNat 109, Char.ofNat 47, Char.ofNat 115, Char.ofNat 116, Char.ofNat 114, Char.ofNat 97, Char.ofNat 116, Char.ofNat 117, Char.ofNat 109, Char.ofNat 108, Char.ofNat 97, Char.ofNat 119, Char.ofNat 49, Char.ofNat 48, Char.ofNat 46, Char.ofNat 68, Char.ofNat 105, Char.ofNat 115, Char.ofNat 107,
    Char.ofNat 67, Char.ofNat 117, Char.ofNat 116, Char.ofNat 115, Char.ofNat 32, Char.ofNat 115, Char.ofNat 116, Char.ofNat 114, Char.ofNat 97, Char.ofNat 116, Char.ofNat 117, Char.ofNat 109, Char.ofNat 47, Char.ofNat 115, Char.ofNat 116, Char.ofNat 114, Char.ofNat 97, Char.ofNat 116, Char.ofNat 117, Char.ofNat 109,
    Char.ofNat 108, Char.ofNat 97, Char.ofNat 119, Char.ofNat 49, Char.ofNat 48, Char.ofNat 46, Char.ofNat 68, Char.ofNat 105, Char.ofNat 115, Char.ofNat 107, Char.ofNat 68, Char.ofNat 111, Char.ofNat 101, Char.ofNat 115, Char.ofNat 32, Char.ofNat 115, Char.ofNat 116, Char.ofNat 114, Char.ofNat 97, Char.ofNat 116,
    Char.ofNat 117, Char.ofNat 109, Char.ofNat 47, Char.ofNat 115, Char.ofNat 116, Char.ofNat 114, Char.ofNat 97, Char.ofNat 116, Char.ofNat 117, Char.ofNat 109, Char.ofNat 108, Char.ofNat 97, Char.ofNat 119, Char.ofNat 49, Char.ofNat 48, Char.ofNat 46, Char.ofNat 68, Char.ofNat 105, Char.ofNat 115, Char.ofNat 107,
    Char.ofNat 72, Char.ofNat 97, Char.ofNat 108, Char.ofNat 116, Char.ofNat 115, Char.ofNat 32, Char.ofNat 115, Char.ofNat 116, Char.ofNat 114, Char.ofNat 97, Char.ofNat 116, Char.ofNat 117, Char.ofNat 109, Char.ofNat 47, Char.ofNat 115, Char.ofNat 116, Char.ofNat 114, Char.ofNat 97, Char.ofNat 116, Char.ofNat 117,
    Char.ofNat 109, Char.ofNat 108, Char.ofNat 97, Char.ofNat 119, Char.ofNat 48, Char.ofNat 55, Char.ofNat 46, Char.ofNat 67, Char.ofNat 111, Char.ofNat 100, Char.ofNat 101, Char.ofNat 69, Char.ofNat 110, Char.ofNat 99, Char.ofNat 111, Char.ofNat 100, Char.ofNat 101, Char.ofNat 115, Char.ofNat 32, Char.ofNat 115,
    Char.ofNat 116, Char.ofNat 114, Char.ofNat 97, Char.ofNat 116, Char.ofNat 117, Char.ofNat 109, Char.ofNat 47, Char.ofNat 115, Char.ofNat 116, Char.ofNat 114, Char.ofNat 97, Char.ofNat 116, Char.ofNat 117, Char.ofNat 109, Char.ofNat 108, Char.ofNat 97, Char.ofNat 119, Char.ofNat 48, Char.ofNat 55, Char.ofNat 46,
    Char.ofNat 67, Char.ofNat 111, Char.ofNat 100, Char.ofNat 101, Char.ofNat 77, Char.ofNat 97, Char.ofNat 107, Char.ofNat 101, Char.ofNat 115, Char.ofNat 32, Char.ofNat 115, Char.ofNat 116, Char.ofNat 114, Char.ofNat 97, Char.ofNat 116, Char.ofNat 117, Char.ofNat 109, Char.ofNat 47, Char.ofNat 115, Char.ofNat 116,
    Char.ofNat 114, Char.ofNat 97, Char.ofNat 116, Char.ofNat 117, Char.ofNat 109, Char.ofNat 108, Char.ofNat 97, Char.ofNat 119, Char.ofNat 48, Char.ofNat 55, Char.ofNat 46, Char.ofNat 67, Char.ofNat 111, Char.ofNat 100, Char.ofNat 101, Char.ofNat 68, Char.ofNat 101, Char.ofNat 99, Char.ofNat 111, Char.ofNat 100,
    Char.ofNat 101, Char.ofNat 115, Char.ofNat 32, Char.ofNat 115, Char.ofNat 116, Char.ofNat 114, Char.ofNat 97, Char.ofNat 116, Char.ofNat 117, Char.ofNat 109, Char.ofNat 47, Char.ofNat 115, Char.ofNat 116, Char.ofNat 114, Char.ofNat 97, Char.ofNat 116, Char.ofNat 117, Char.ofNat 109, Char.ofNat 108, Char.ofNat 97,
    Char.ofNat 119, Char.ofNat 48, Char.ofNat 55, Char.ofNat 46, Char.ofNat 67, Char.ofNat 111, Char.ofNat 100, Char.ofNat 101, Char.ofNat 79, Char.ofNat 110, Char.ofNat 108, Char.ofNat 121, Char.ofNat 32, Char.ofNat 115, Char.ofNat 116, Char.ofNat 114, Char.ofNat 97, Char.ofNat 116, Char.ofNat 117, Char.ofNat 109,
    Char.ofNat 47, Char.ofNat 115, Char.ofNat 116, Char.ofNat 114, Char.ofNat 97, Char.ofNat 116, Char.ofNat 117, Char.ofNat 109, Char.ofNat 108, Char.ofNat 97, Char.ofNat 119, Char.ofNat 48, Char.ofNat 55, Char.ofNat 46, Char.ofNat 67, Char.ofNat 111, Char.ofNat 100, Char.ofNat 101, Char.ofNat 65, Char.ofNat 112,
    Char.ofNat 97, Char.ofNat 114, Char.ofNat 116, Char.ofNat 32, Char.ofNat 115, Char.ofNat 116, Char.ofNat 114, Char.ofNat 97, Char.ofNat 116, Char.ofNat 117, Char.ofNat 109, Char.ofNat 47, Char.ofNat 115, Char.ofNat 116, Char.ofNat 114, Char.ofNat 97, Char.ofNat 116, Char.ofNat 117, Char.ofNat 109, Char.ofNat 108,
    Char.ofNat 97, Char.ofNat 119, Char.ofNat 48, Char.ofNat 55, Char.ofNat 46, Char.ofNat 67, Char.ofNat 111, Char.ofNat 100, Char.ofNat 101, Char.ofNat 76, Char.ofNat 111, Char.ofNat 110, Char.ofNat 103, Char.ofNat 32, Char.ofNat 115, Char.ofNat 116, Char.ofNat 114, Char.ofNat 97, Char.ofNat 116, Char.ofNat 117,
    Char.ofNat 109, Char.ofNat 47, Char.ofNat 115, Char.ofNat 116, Char.ofNat 114, Char.ofNat 97, Char.ofNat 116, Char.ofNat 117, Char.ofNat 109, Char.ofNat 108, Char.ofNat 97, Char.ofNat 119, Char.ofNat 49, Char.ofNat 54, Char.ofNat 46, Char.ofNat 77, Char.ofNat 115, Char.ofNat 103, Char.ofNat 69, Char.ofNat 110,
    Char.ofNat 99, Char.ofNat 111, Char.ofNat 100, Char.ofNat 101, Char.ofNat 115, Char.ofNat 32, Char.ofNat 115, Char.ofNat 116, Char.ofNat 114, Char.ofNat 97, Char.ofNat 116, Char.ofNat 117, Char.ofNat 109, Char.ofNat 47, Char.ofNat 115, Char.ofNat 116, Char.ofNat 114, Char.ofNat 97, Char.ofNat 116, Char.ofNat 117,
    Char.ofNat 109, Char.ofNat 108, Char.ofNat 97, Char.ofNat 119, Char.ofNat 49, Char.ofNat 54, Char.ofNat 46, Char.ofNat 77, Char.ofNat 115, Char.ofNat 103, Char.ofNat 68, Char.ofNat 101, Char.ofNat 99, Char.ofNat 111, Char.ofNat 100, Char.ofNat 101, Char.ofNat 115, Char.ofNat 32, Char.ofNat 115, Char.ofNat 116,
    Char.ofNat 114, Char.ofNat 97, Char.ofNat 116, Char.ofNat 117, Char.ofNat 109, Char.ofNat 47, Char.ofNat 115, Char.ofNat 116, Char.ofNat 114, Char.ofNat 97, Char.ofNat 116, Char.ofNat 117, Char.ofNat 109, Char.ofNat 108, Char.ofNat 97, Char.ofNat 119, Char.ofNat 49, Char.ofNat 54, Char.ofNat 46, Char.ofNat 77,
    Char.ofNat 115, Char.ofNat 103, Char.ofNat 66, Char.ofNat 97, Char.ofNat 99, Char.ofNat 107, Char.ofNat 32, Char.ofNat 115, Char.ofNat 116, Char.ofNat 114, Char.ofNat 97, Char.ofNat 116, Char.ofNat 117, Char.ofNat 109, Char.ofNat 47, Char.ofNat 115, Char.ofNat 116, Char.ofNat 114, Char.ofNat 97, Char.ofNat 116,
    Char.ofNat 117, Char.ofNat 109, Char.ofNat 108, Char.ofNat 97, Char.ofNat 119, Char.ofNat 49, Char.ofNat 54, Char.ofNat 46, Char.ofNat 77, Char.ofNat 115, Char.ofNat 103, Char.ofNat 79, Char.ofNat 110, Char.ofNat 108, Char.ofNat 121, Char.ofNat 32, Char.ofNat 115, Char.ofNat 116, Char.ofNat 114, Char.ofNat 97,
    Char.ofNat 116, Char.ofNat 117, Char.ofNat 109, Char.ofNat 47, Char.ofNat 115, Char.ofNat 116, Char.ofNat 114, Char.ofNat 97, Char.ofNat 116, Char.ofNat 117, Char.ofNat 109, Char.ofNat 108, Char.ofNat 97, Char.ofNat 119, Char.ofNat 49, Char.ofNat 54, Char.ofNat 46, Char.ofNat 77, Char.ofNat 115, Char.ofNat 103,
    Char.ofNat 65, Char.ofNat 112, Char.ofNat 97, Char.ofNat 114, Char.ofNat 116, Char.ofNat 32, Char.ofNat 115, Char.ofNat 116, Char.ofNat 114, Char.ofNat 97, Char.ofNat 116, Char.ofNat 117, Char.ofNat 109, Char.ofNat 47, Char.ofNat 115, Char.ofNat 116, Char.ofNat 114, Char.ofNat 97, Char.ofNat 116, Char.ofNat 117,
    Char.ofNat 109, Char.ofNat 108, Char.ofNat 97, Char.ofNat 119, Char.ofNat 49, Char.ofNat 54, Char.ofNat 46, Char.ofNat 77, Char.ofNat 115, Char.ofNat 103, Char.ofNat 75, Char.ofNat 105, Char.ofNat 110, Char.ofNat 100, Char.ofNat 115, Char.ofNat 32, Char.ofNat 115, Char.ofNat 116, Char.ofNat 114, Char.ofNat 97,
    Char.ofNat 116, Char.ofNat 117, Char.ofNat 109, Char.ofNat 47, Char.ofNat 115, Char.ofNat 116, Char.ofNat 114, Char.ofNat 97, Char.ofNat 116, Char.ofNat 117, Char.ofNat 109, Char.ofNat 108, Char.ofNat 97, Char.ofNat 119, Char.ofNat 49, Char.ofNat 49, Char.ofNat 46, Char.ofNat 87, Char.ofNat 97, Char.ofNat 108,
    Char.ofNat 82, Char.ofNat 111, Char.ofNat 111, Char.ofNat 109, Char.ofNat 32, Char.ofNat 115, Char.ofNat 116, Char.ofNat 114, Char.ofNat 97, Char.ofNat 116, Char.ofNat 117, Char.ofNat 109, Char.ofNat 47, Char.ofNat 115, Char.ofNat 116, Char.ofNat 114, Char.ofNat 97, Char.ofNat 116, Char.ofNat 117, Char.ofNat 109,
    Char.ofNat 108, Char.ofNat 97, Char.ofNat 119, Char.ofNat 49, Char.ofNat 49, Char.ofNat 46, Char.ofNat 87, Char.ofNat 97, Char.ofNat 108, Char.ofNat 70, Char.ofNat 114, Char.ofNat 111, Char.ofNat 110, Char.ofNat 116, Char.ofNat 115, Char.ofNat 32, Char.ofNat 115, Char.ofNat 116, Char.ofNat 114, Char.ofNat 97,
    Char.ofNat 116, Char.ofNat 117, Char.ofNat 109, Char.ofNat 47, Char.ofNat 115, Char.ofNat 116, Char.ofNat 114, Char.ofNat 97, Char.ofNat 116, Char.ofNat 117, Char.ofNat 109, Char.ofNat 108, Char.ofNat 97, Char.ofNat 119, Char.ofNat 49, Char.ofNat 49, Char.ofNat 46, Char.ofNat 87, Char.ofNat 97, Char.ofNat 108,
    Char.ofNat 76, Char.ofNat 97, Char.ofNat 115, Char.ofNat 116, Char.ofNat 115]
theorem order_is : Tryd.prog.initOrder = String.ofList (word0 ++ Char.ofNat 32 :: (word1 ++ Char.ofNat 32 :: (word2 ++ Char.ofNat 32 :: behind))) := by kernel_rfl
theorem order_words : wordsSigns Tryd.prog.initOrder.toList = word0 :: word1 :: word2 :: wordsSigns behind := by
  rw [order_is, String.toList_ofList, words_cut _ (by kernel_rfl), words_cut _ (by kernel_rfl), words_cut _ (by kernel_rfl)]
theorem order_behind : behindMainWord (wordsSigns Tryd.prog.initOrder.toList) = word2 :: wordsSigns behind := by rw [order_words]; kernel_rfl
theorem main_of {P : Program} {h s : List Char} {r : List (List Char)} (e : wordsSigns P.initOrder.toList = h :: s :: r) : P.mainIs = (if !isSumSigns s then none else if h == "harness".toList then some (true, s) else if h == "ownmain".toList then some (false, s) else none) := by unfold Program.mainIs; rw [e]
theorem make_of {P : Program} {c : List Char} {r : List (List Char)} (e : behindMainWord (wordsSigns P.initOrder.toList) = c :: r) (h1 : (c == "gc".toList || c == "spec".toList) = false) (h2 : (c == "cut".toList) = true) : P.make = some .cut := by
  unfold Program.make; rw [e]; simp only [h1, h2]; rfl
theorem may_of {P : Program} {c : List Char} {r : List (List Char)} (e : behindMainWord (wordsSigns P.initOrder.toList) = c :: r) (h : ((stripLifts liftWords (c :: r)).2.head? == some "cut".toList && ((stripLifts liftWords (c :: r)).1.contains "finals" || !P.laysLater) && ((stripLifts liftWords (c :: r)).1.contains "reflectrows" || !P.bearsReflect) && ((stripLifts liftWords (c :: r)).1.contains "reflectrows" || !(stripLifts liftWords (c :: r)).1.contains "leanrows") && P.doorFits (stripLifts liftWords (c :: r)).1) = true) : P.mayEnter = true := by
  unfold Program.mayEnter; rw [e]; simp only [h, Bool.or_true]
theorem strip_is : stripLifts liftWords (word2 :: wordsSigns behind) = ([], word2 :: wordsSigns behind) := by kernel_rfl
theorem order_may : Tryd.prog.mayEnter = true := may_of order_behind (by rw [strip_is]; kernel_rfl)
theorem order_final : Tryd.prog.liftsFinal = false := by unfold Program.liftsFinal Program.headLifts; rw [order_behind]; kernel_rfl
theorem order_make : Tryd.prog.make = some .cut := make_of order_behind (by kernel_rfl) (by kernel_rfl)
theorem sum_is : ("e2b871cb80d376d5ad911841bd9010a48b66507fb14a0af13b36f9c6414ed1b0" : String) = String.ofList word1 := by kernel_rfl
theorem order_main : Tryd.prog.mainIs = some (true, ("e2b871cb80d376d5ad911841bd9010a48b66507fb14a0af13b36f9c6414ed1b0" : String).toList) := by rw [sum_is, String.toList_ofList]; exact (main_of order_words).trans (by kernel_rfl)
theorem pin_may : Tryd.pinned.checked.prog.mayEnter = true := order_may
theorem pin_final : Tryd.pinned.checked.prog.liftsFinal = false := order_final
theorem pin_make : Tryd.pinned.checked.prog.make = some .cut := order_make
theorem pin_main : Tryd.pinned.checked.prog.mainIs = some (true, ("e2b871cb80d376d5ad911841bd9010a48b66507fb14a0af13b36f9c6414ed1b0" : String).toList) := order_main
theorem band {a b : Bool} (ha : a = true) (hb : b = true) : (a && b) = true := by rw [ha, hb]; rfl
end Go.Proofs.YtbbhjceelghadaaDoor.My
end

section
-- from BufG
namespace Go.Proofs
open Go.Shelf
def Tryd.laysM290_ren : Go.Shelf.Ren := ⟨fun | 290 => 137 | 324 => 149 | n => n, fun | 37 => 23 | 3 => 3 | 0 => 0 | 4 => 4 | 20 => 20 | 75 => 117 | 5 => 5 | 80 => 203 | 9 => 9 | n => n, fun | 14 => 0 | n => n⟩
theorem Tryd.laysM290 : Go.Proofs.LaysM.n290 Tryd.prog Tryd.laysM290_ren := {
  mixed := by kernel_rfl
  f290 := Tryd.func137.trans (congrArg some (by kernel_rfl))
  f324 := Tryd.func149.trans (congrArg some (by kernel_rfl))
  t0 := Tryd.underlying0
  a0 := Tryd.isAgg0
  z0 := Tryd.sizeOf0
  v0 := Tryd.zeroValue0
  t3 := Tryd.underlying3
  a3 := Tryd.isAgg3
  z3 := Tryd.sizeOf3
  v3 := Tryd.zeroValue3
  t4 := Tryd.underlying4
  a4 := Tryd.isAgg4
  z4 := Tryd.sizeOf4
  v4 := Tryd.zeroValue4
  t20 := Tryd.underlying20
  a20 := Tryd.isAgg20
  z20 := Tryd.sizeOf20
  v20 := Tryd.zeroValue20
  t37 := Tryd.underlying23
  a37 := Tryd.isAgg23
  z37 := Tryd.sizeOf23
  v37 := Tryd.zeroValue23
  t75 := Tryd.underlying117
  a75 := Tryd.isAgg117
  z75 := Tryd.sizeOf117
  v75 := Tryd.zeroValue117
  g14 := by kernel_rfl
  t5 := Tryd.underlying5
  a5 := Tryd.isAgg5
  z5 := Tryd.sizeOf5
  v5 := Tryd.zeroValue5
  t9 := Tryd.underlying9
  a9 := Tryd.isAgg9
  z9 := Tryd.sizeOf9
  v9 := Tryd.zeroValue9
  t80 := Tryd.underlying203
  a80 := Tryd.isAgg203
  z80 := Tryd.sizeOf203
  v80 := Tryd.zeroValue203
  i0 := by kernel_rfl
  i3 := by kernel_rfl
  i4 := by kernel_rfl
  i5 := by kernel_rfl
  i9 := by kernel_rfl
  i20 := by kernel_rfl
  i37 := by kernel_rfl
  i75 := by kernel_rfl
  i80 := by kernel_rfl
  m14 := by kernel_rfl }
open Go.RowKit in
/-- bytes.growSlice: "growSlice grows b by n, preserving the original content of b.": OF A SLICE THAT LIES AT THE HEAD OF A ROW: a new row, number 'w.heap.size': it begins with b's l cells; its capacity has room for n more; whatever lay below is as it was. (LAID: no walk: one application.) -/
theorem Tryd.bytes_growSlice_row (g l c n : Nat) (cur : Array Value) (w : World) (hg : w.heap[g]? = some (.cells cur 5 (0, 0))) (hcs : cur.size = c) (hlc : l ≤ c) (hn : 1 ≤ n) (hlim : l + n ≤ 140737488355328) (hc2 : c ≤ 140737488355328) (h1 : ∀ v ∈ cur.toList.take l, v.oneCell' = true) :
    Calls Tryd.prog 137 #[.slice (some ⟨g, 0, none⟩) l c, .int .i64 n] w fun e w' => ∃ cap2 cells, e = .returned (.slice (some ⟨w.heap.size, 0, none⟩) l cap2) ∧ w'.heap[w.heap.size]? = some (.cells cells 5 (0, 0)) ∧
      cells.size = cap2 ∧ cells.toList.take l = cur.toList.take l ∧ l + n ≤ cap2 ∧ cap2 ≤ maxLen ∧ Below w.heap.size w w' := Any.bytes_growSlice_row Tryd.laysM290 g l c n cur w hg hcs hlc hn hlim hc2 h1
open Go.RowKit in
/-- .. OF THE NIL SLICE: a new row with room for n. (LAID: no walk: one application.) -/
theorem Tryd.bytes_growSlice_nil (n : Nat) (w : World) (hn : 1 ≤ n) (hlim : n ≤ 140737488355328) :
    Calls Tryd.prog 137 #[.slice none 0 0, .int .i64 n] w fun e w' => ∃ cap2 cells, e = .returned (.slice (some ⟨w.heap.size, 0, none⟩) 0 cap2) ∧ w'.heap[w.heap.size]? = some (.cells cells 5 (0, 0)) ∧
      cells.size = cap2 ∧ n ≤ cap2 ∧ cap2 ≤ maxLen ∧ Below w.heap.size w w' := Any.bytes_growSlice_nil Tryd.laysM290 n w hn hlim
def Tryd.laysM251_ren : Go.Shelf.Ren := ⟨fun | 251 => 114 | n => n, fun | 130 => 125 | 3 => 3 | 4 => 4 | 0 => 0 | 93 => 111 | 37 => 23 | 91 => 109 | 5 => 5 | n => n, fun | n => n⟩
theorem Tryd.laysM251 : Go.Proofs.LaysM.n251 Tryd.prog Tryd.laysM251_ren := {
  mixed := by kernel_rfl
  f251 := Tryd.func114.trans (congrArg some (by kernel_rfl))
  t0 := Tryd.underlying0
  a0 := Tryd.isAgg0
  z0 := Tryd.sizeOf0
  v0 := Tryd.zeroValue0
  t3 := Tryd.underlying3
  a3 := Tryd.isAgg3
  z3 := Tryd.sizeOf3
  v3 := Tryd.zeroValue3
  t4 := Tryd.underlying4
  a4 := Tryd.isAgg4
  z4 := Tryd.sizeOf4
  v4 := Tryd.zeroValue4
  t37 := Tryd.underlying23
  a37 := Tryd.isAgg23
  z37 := Tryd.sizeOf23
  v37 := Tryd.zeroValue23
  t93 := Tryd.underlying111
  a93 := Tryd.isAgg111
  z93 := Tryd.sizeOf111
  v93 := Tryd.zeroValue111
  t130 := Tryd.underlying125
  a130 := Tryd.isAgg125
  z130 := Tryd.sizeOf125
  v130 := Tryd.zeroValue125
  t5 := Tryd.underlying5
  a5 := Tryd.isAgg5
  z5 := Tryd.sizeOf5
  v5 := Tryd.zeroValue5
  t91 := Tryd.underlying109
  a91 := Tryd.isAgg109
  z91 := Tryd.sizeOf109
  v91 := Tryd.zeroValue109
  i0 := by kernel_rfl
  i3 := by kernel_rfl
  i4 := by kernel_rfl
  i5 := by kernel_rfl
  i37 := by kernel_rfl
  i91 := by kernel_rfl
  i93 := by kernel_rfl
  i130 := by kernel_rfl }
open Go.RowKit in
/-- (*bytes.Buffer).tryGrowByReslice: "tryGrowByReslice is an inlineable version of grow for the fast-case where the internal buffer only needs to be resliced. It returns the index where bytes should be written and whether it succeeded.": THERE IS ROOM: 'buf' is resliced to l + n. (LAID: no walk: one application.) -/
theorem Tryd.Buffer_tryGrow_room_at (b q : Nat) (ao : Option Addr) (l cap n : Nat) (w : World) (c0 : w.cell? ⟨b, q, none⟩ = some (.slice ao l cap)) (f0 : w.frozen? ⟨b, q, none⟩ = false) (hlc : l ≤ cap) (hcap : cap ≤ maxLen) (hn : n ≤ cap - l) :
    Calls Tryd.prog 114 #[.pointer (some ⟨b, q, none⟩), .int .i64 n] w fun e w' => e = .returned (.tuple #[.int .i64 l, .bool true]) ∧ w' = w.setCell ⟨b, q, none⟩ (.slice ao (l + n) cap) := Any.Buffer_tryGrow_room_at Tryd.laysM251 b q ao l cap n w c0 f0 hlc hcap hn
open Go.RowKit in
/-- .. THERE IS NONE: nothing turns. (LAID: no walk: one application.) -/
theorem Tryd.Buffer_tryGrow_none_at (b q : Nat) (ao : Option Addr) (l cap n : Nat) (w : World) (c0 : w.cell? ⟨b, q, none⟩ = some (.slice ao l cap)) (hlc : l ≤ cap) (hcap : cap ≤ maxLen) (hn : cap - l < n) :
    Calls Tryd.prog 114 #[.pointer (some ⟨b, q, none⟩), .int .i64 n] w fun e w' => e = .returned (.tuple #[.int .i64 0, .bool false]) ∧ w' = w := Any.Buffer_tryGrow_none_at Tryd.laysM251 b q ao l cap n w c0 hlc hcap hn
end Go.Proofs
end

section
-- from DiskG
namespace Go.Proofs.YtbbhjceelghadaaDoor.K
open Go Go.RowKit Go.Proofs.YtbbhjceelghadaaDoorW.PrintWords Go.Proofs.YtbbhjceelghadaaDoorW.PrintLast Go.Proofs.YtbbhjceelghadaaDoorW.PrintMore Go.Proofs.YtbbhjceelghadaaDoor.My
/-- A disk's cells. -/
def Dc (w : World) (b : Nat) (ao : Option Addr) (l cap : Nat) (lr lasts room left : Int) : Prop :=
  w.heap[b]? = some (.cells #[.slice ao l cap, .int .i64 0, .int .i8 lr, .int .i64 lasts, .int .i64 room, .int .i64 left] 113 (0, 0))
section
variable {w : World} {b : Nat} {ao : Option Addr} {l cap : Nat} {lr lasts room left : Int}
theorem Dc.c0 (h : Dc w b ao l cap lr lasts room left) : w.cell? ⟨b, 0, none⟩ = some (.slice ao l cap) := (blk_cell h 0).trans rfl
theorem Dc.c1 (h : Dc w b ao l cap lr lasts room left) : w.cell? ⟨b, 1, none⟩ = some (.int .i64 0) := (blk_cell h 1).trans rfl
theorem Dc.c2 (h : Dc w b ao l cap lr lasts room left) : w.cell? ⟨b, 2, none⟩ = some (.int .i8 lr) := (blk_cell h 2).trans rfl
theorem Dc.c3 (h : Dc w b ao l cap lr lasts room left) : w.cell? ⟨b, 3, none⟩ = some (.int .i64 lasts) := (blk_cell h 3).trans rfl
theorem Dc.c4 (h : Dc w b ao l cap lr lasts room left) : w.cell? ⟨b, 4, none⟩ = some (.int .i64 room) := (blk_cell h 4).trans rfl
theorem Dc.c5 (h : Dc w b ao l cap lr lasts room left) : w.cell? ⟨b, 5, none⟩ = some (.int .i64 left) := (blk_cell h 5).trans rfl
theorem Dc.f (h : Dc w b ao l cap lr lasts room left) (i : Nat) : w.frozen? ⟨b, i, none⟩ = false := blk_frozen h i
theorem Dc.lt (h : Dc w b ao l cap lr lasts room left) : b < w.heap.size := blk_lt h
theorem Dc.below {w' : World} (h : Dc w b ao l cap lr lasts room left) (hb : Below w.heap.size w w') : Dc w' b ao l cap lr lasts room left := heap_below hb h
theorem Dc.s0 (h : Dc w b ao l cap lr lasts room left) (ao' : Option Addr) (l' cap' : Nat) : Dc (w.setCell ⟨b, 0, none⟩ (.slice ao' l' cap')) b ao' l' cap' lr lasts room left := blk_put h 0 _ rfl
theorem Dc.s1 (h : Dc w b ao l cap lr lasts room left) : Dc (w.setCell ⟨b, 1, none⟩ (.int .i64 0)) b ao l cap lr lasts room left := blk_put h 1 _ rfl
theorem Dc.s2 (h : Dc w b ao l cap lr lasts room left) (x : Int) : Dc (w.setCell ⟨b, 2, none⟩ (.int .i8 x)) b ao l cap x lasts room left := blk_put h 2 _ rfl
theorem Dc.s3 (h : Dc w b ao l cap lr lasts room left) (x : Int) : Dc (w.setCell ⟨b, 3, none⟩ (.int .i64 x)) b ao l cap lr x room left := blk_put h 3 _ rfl
theorem Dc.s5 (h : Dc w b ao l cap lr lasts room left) (x : Int) : Dc (w.setCell ⟨b, 5, none⟩ (.int .i64 x)) b ao l cap lr lasts room x := blk_put h 5 _ rfl
end
theorem grown_below {w w1 w2 : World} {row : Option Nat} (h : w.grownBy w1 row) (k : Below w1.heap.size w1 w2) : w.grownBy w2 row :=
  ⟨k.os.trans h.os, k.tape.trans h.tape, k.output.trans h.output, Nat.le_trans h.size k.size, fun i hi hne => (k.block i (Nat.lt_of_lt_of_le hi h.size)).trans (h.block i hi hne)⟩
theorem grown_set {w w1 : World} {b : Nat} (h : w.grownBy w1 (some b)) (i : Nat) (v : Value) : w.grownBy (w1.setCell ⟨b, i, none⟩ v) (some b) := Lib.grownBy_trans h (Lib.grownBy_setCell w1 b i v)
set_option maxHeartbeats 1000000 in
theorem dlen_any {b : Nat} {ao : Option Addr} {l cap : Nat} {lr lasts room left : Int} (w : World) (h : Dc w b ao l cap lr lasts room left) (hl : l ≤ 140737488355328) :
    Calls Tryd.prog 68 #[.pointer (some ⟨b, 0, none⟩)] w fun e w' => e = .returned (.int .i64 l) ∧ ∃ n, w' = w.drewN n := by
  have c0 := h.c0
  have c1 := h.c1
  have mixed : Tryd.prog.follows Departure.mixedOrders = true := by kernel_rfl
  have hwl : IntKind.i64.wrap (l : Int) = l := by rw [IntKind.wrap_i64]; omega
  clear h
  go_enter Tryd.func68, Tryd.ntmps68
  go_wp2
  go_region_o
  all_goals (go_wp2; go_ret; exact ⟨by simp [Act.put, hwl], 1, rfl⟩)
set_option maxHeartbeats 12800000 in
set_option maxRecDepth 100000 in
/-- grow, where a row has no room: a new one. -/
theorem dgrow_row {b g l cap n : Nat} {lr lasts room left : Int} {cur : Array Value} (w : World) (h : Dc w b (some ⟨g, 0, none⟩) l cap lr lasts room left) (hg : w.heap[g]? = some (.cells cur 5 (0, 0))) (hlc : l ≤ cap) (hcm : cap ≤ maxLen) (hcs : cur.size = cap)
    (h1 : ∀ v ∈ cur.toList.take l, v.oneCell' = true) (hn : 1 ≤ n) (hroom : cap - l < n) (hlim : l + n ≤ 140737488355328) :
    Calls Tryd.prog 115 #[.pointer (some ⟨b, 0, none⟩), .int .i64 n] w fun e w' => e = .returned (.int .i64 l) ∧ ∃ g2 cap2 cells, Dc w' b (some ⟨g2, 0, none⟩) (l + n) cap2 lr lasts room left ∧ w'.heap[g2]? = some (.cells cells 5 (0, 0)) ∧ w.heap.size ≤ g2 ∧
      cells.size = cap2 ∧ cells.toList.take l = cur.toList.take l ∧ l + n ≤ cap2 ∧ cap2 ≤ maxLen ∧ w.grownBy w' (some b) := by
  have hnil : ∀ W l, (binOp .eql 23 (.slice (some ⟨g, 0, none⟩) l cap) (.slice none 0 0)).run Tryd.prog W = .ok (.bool false) W := fun W l => Lib.run_eql_slice_some_nil W _ _ _ Tryd.underlying23
  have mixed : Tryd.prog.follows Departure.mixedOrders = true := by kernel_rfl
  have hcm' := hcm
  unfold maxLen at hcm'
  have hc2 : cap ≤ 140737488355328 := by omega
  have hlen := dlen_any w h (by omega)
  have HD := Aside0.mk h
  clear h
  go_enter Tryd.func115, Tryd.ntmps115
  go_wp2_with (go_at_call 68; refine hlen.mono ?_)
  rintro e W0 ⟨rfl, k, hW0⟩
  have hD0 : Dc W0 b (some ⟨g, 0, none⟩) l cap lr lasts room left := by rw [hW0]; exact HD.out
  have hg0 : W0.heap[g]? = some (.cells cur 5 (0, 0)) := by rw [hW0]; exact hg
  have c0 := hD0.c0
  have c1 := hD0.c1
  have f0 := hD0.f 0
  have f1 := hD0.f 1
  have HW0 := Lib.hid hW0
  have HD0 := Aside0.mk hD0
  have hbW := hD0.lt
  clear hW0 hlen hD0
  have hwn : IntKind.i64.wrap (n : Int) = n := by rw [IntKind.wrap_i64]; omega
  rcases Nat.eq_zero_or_pos l with rfl | hl0
  all_goals go_wp2_with (go_at_call 114; refine (Tryd.Buffer_tryGrow_none_at b 0 _ _ cap n _ c0 hlc hcm hroom).mono ?_; rintro e w' ⟨rfl, rfl⟩)
  · go_region_with_o (
      go_at_call 137
      refine (Tryd.bytes_growSlice_row g 0 cap n cur _ ?_ hcs hlc hn hlim hc2 h1).mono ?_
      exact hg0
      rintro e w2 ⟨cap2, cells, rfl, hN, hcsz, htk, hcap2, hcm2, hbel⟩
      have hD2 : Dc w2 b (some ⟨g, 0, none⟩) 0 cap lr lasts room left := (hbel.block b hbW).trans HD0.out
      have d0 := hD2.c0
      have d1 := hD2.c1
      have e0 := hD2.f 0
      have e1 := hD2.f 1)
    all_goals (
      go_wp2
      go_ret
      have hgr : w.grownBy w2 (some b) := grown_below (w1 := w'.drew) (by rw [HW0.out]; exact ⟨rfl, rfl, rfl, Nat.le_refl _, fun _ _ _ => rfl⟩) hbel
      have hne : w'.heap.size ≠ b := by omega
      have hsz : w.heap.size ≤ w'.heap.size := by rw [HW0.out]; exact Nat.le_refl _
      refine ⟨rfl, w'.heap.size, cap2, cells, ?_, blk_far (blk_far (blk_far hN (p := ⟨b, 0, none⟩) hne _) (p := ⟨b, 1, none⟩) hne _) (p := ⟨b, 0, none⟩) hne _, hsz, hcsz, htk, hcap2, hcm2, grown_set (grown_set (grown_set hgr 0 _) 1 _) 0 _⟩
      first | exact ((hD2.s0 _ _ _).s1).s0 _ _ _ | (rw [Nat.zero_add]; exact ((hD2.s0 _ _ _).s1).s0 _ _ _))
  · go_region_with_o (
      go_at_call 137
      refine (Tryd.bytes_growSlice_row g l cap n cur _ ?_ hcs hlc hn hlim hc2 h1).mono ?_
      exact hg0
      rintro e w2 ⟨cap2, cells, rfl, hN, hcsz, htk, hcap2, hcm2, hbel⟩
      have hD2 : Dc w2 b (some ⟨g, 0, none⟩) l cap lr lasts room left := (hbel.block b hbW).trans HD0.out
      have d0 := hD2.c0
      have d1 := hD2.c1
      have e0 := hD2.f 0
      have e1 := hD2.f 1)
    all_goals (
      go_wp2
      go_ret
      have hgr : w.grownBy w2 (some b) := grown_below (w1 := w'.drew) (by rw [HW0.out]; exact ⟨rfl, rfl, rfl, Nat.le_refl _, fun _ _ _ => rfl⟩) hbel
      have hne : w'.heap.size ≠ b := by omega
      have hsz : w.heap.size ≤ w'.heap.size := by rw [HW0.out]; exact Nat.le_refl _
      refine ⟨rfl, w'.heap.size, cap2, cells, ?_, blk_far (blk_far (blk_far hN (p := ⟨b, 0, none⟩) hne _) (p := ⟨b, 1, none⟩) hne _) (p := ⟨b, 0, none⟩) hne _, hsz, hcsz, htk, hcap2, hcm2, grown_set (grown_set (grown_set hgr 0 _) 1 _) 0 _⟩
      first | exact ((hD2.s0 _ _ _).s1).s0 _ _ _ | (rw [Nat.zero_add]; exact ((hD2.s0 _ _ _).s1).s0 _ _ _))
end Go.Proofs.YtbbhjceelghadaaDoor.K
end

section
-- from DiskH
namespace Go.Proofs.YtbbhjceelghadaaDoor.K
open Go Go.RowKit Go.Proofs.YtbbhjceelghadaaDoorW.PrintWords Go.Proofs.YtbbhjceelghadaaDoorW.PrintLast Go.Proofs.YtbbhjceelghadaaDoorW.PrintMore Go.Proofs.YtbbhjceelghadaaDoor.My
set_option maxHeartbeats 12800000 in
set_option maxRecDepth 100000 in
theorem dgrow_small {b n : Nat} {lr lasts room left : Int} (w : World) (h : Dc w b none 0 0 lr lasts room left) (hn : 1 ≤ n) (h64 : n ≤ 64) :
    Calls Tryd.prog 115 #[.pointer (some ⟨b, 0, none⟩), .int .i64 n] w fun e w' => e = .returned (.int .i64 0) ∧ ∃ g2 cap2 cells, Dc w' b (some ⟨g2, 0, none⟩) n cap2 lr lasts room left ∧ w'.heap[g2]? = some (.cells cells 5 (0, 0)) ∧ w.heap.size ≤ g2 ∧
      cells.size = cap2 ∧ n ≤ cap2 ∧ cap2 ≤ maxLen ∧ w.grownBy w' (some b) := by
  have mixed : Tryd.prog.follows Departure.mixedOrders = true := by kernel_rfl
  have hinf : (Tryd.prog.info? 5).map (fun i => (i.zero, i.size, i.bytes)) = some (some (.int .u8 0), 1, 1) := by kernel_rfl
  obtain ⟨i0, hi, hz0, hz1, hz2⟩ := info_parts hinf
  obtain ⟨M, hM⟩ : ∃ M, M = madeCells (Value.int .u8 0).cells ((64 : Int).toNat * i0.size) := ⟨_, rfl⟩
  have hMs : M.size = 64 := by rw [hM, size_madeCells, hz1]; rfl
  have hmk : ∀ W : World, (Instr.makeSlice 23 (.int .i64 (n : Int)) (.int .i64 64)).run Tryd.prog W = .ok (.slice (some ⟨W.heap.size, 0, none⟩) n 64) (W.alloc (.cells M 5)) := fun W => by
    have h := run_makeSlice (P := Tryd.prog) W 23 5 i0 (.int .u8 0) Tryd.underlying23 hi hz0 .i64 .i64 (n : Int) 64 (by omega) (by omega) (by rw [hz1]; decide) (by rw [hz2]; decide) (by decide)
    rw [← hM] at h
    simpa using h
  clear hM
  have hnil : ∀ W, (binOp .eql 23 (.slice none 0 0) (.slice none 0 0)).run Tryd.prog W = .ok (.bool true) W := fun W => Lib.run_eql_slice_nil_nil W _ _ Tryd.underlying23
  have hlen := dlen_any w h (by omega)
  have HD := Aside0.mk h
  clear h
  go_enter Tryd.func115, Tryd.ntmps115
  go_wp2_with (go_at_call 68; refine hlen.mono ?_)
  rintro e W0 ⟨rfl, k, hW0⟩
  have hD0 : Dc W0 b none 0 0 lr lasts room left := by rw [hW0]; exact HD.out
  have c0 := hD0.c0
  have c1 := hD0.c1
  have f0 := hD0.f 0
  have f1 := hD0.f 1
  have hbW0 := hD0.lt
  have c0a : ∀ o, (W0.alloc o).cell? ⟨b, 0, none⟩ = some (.slice none 0 0) := fun o => (World.cell?_of_block (a := ⟨b, 0, none⟩) (Below.heap_alloc W0 o b hbW0)).trans c0
  have f0a : ∀ o, (W0.alloc o).frozen? ⟨b, 0, none⟩ = false := fun o => (World.frozen?_of_block (a := ⟨b, 0, none⟩) (Below.heap_alloc W0 o b hbW0)).trans f0
  have HW0 := Lib.hid hW0
  have HD0 := Aside0.mk hD0
  clear hW0 hlen hD0
  go_wp2_with (go_at_call 114; refine (Tryd.Buffer_tryGrow_none_at b 0 _ 0 0 n _ c0 (Nat.le_refl _) (Nat.zero_le _) (by omega)).mono ?_; rintro e w' ⟨rfl, rfl⟩)
  go_ret
  have hne : w'.heap.size ≠ b := by omega
  have hsz : w.heap.size ≤ w'.heap.size := by rw [HW0.out]; exact Nat.le_refl _
  have hgr : w.grownBy w' (some b) := by rw [HW0.out]; exact ⟨rfl, rfl, rfl, Nat.le_refl _, fun _ _ _ => rfl⟩
  have hs1 : (w'.setCell ⟨b, 0, none⟩ (.slice (some ⟨w'.heap.size, 0, none⟩) n 64)).heap.size = w'.heap.size := by simp [World.setCell]
  refine ⟨rfl, w'.heap.size, 64, M, (HD0.out.s0 _ _ _).below (below_alloc (Below.refl _ _) _), ?_, hsz, hMs, h64, by unfold maxLen; omega, grown_below (grown_set hgr 0 _) (below_alloc (Below.refl _ _) _)⟩
  exact heap_new' hs1.symm
set_option maxHeartbeats 12800000 in
set_option maxRecDepth 100000 in
theorem dgrow_big {b n : Nat} {lr lasts room left : Int} (w : World) (h : Dc w b none 0 0 lr lasts room left) (hn : 64 < n) (hlim : n ≤ 140737488355328) :
    Calls Tryd.prog 115 #[.pointer (some ⟨b, 0, none⟩), .int .i64 n] w fun e w' => e = .returned (.int .i64 0) ∧ ∃ g2 cap2 cells, Dc w' b (some ⟨g2, 0, none⟩) n cap2 lr lasts room left ∧ w'.heap[g2]? = some (.cells cells 5 (0, 0)) ∧ w.heap.size ≤ g2 ∧
      cells.size = cap2 ∧ n ≤ cap2 ∧ cap2 ≤ maxLen ∧ w.grownBy w' (some b) := by
  have mixed : Tryd.prog.follows Departure.mixedOrders = true := by kernel_rfl
  have hnil : ∀ W, (binOp .eql 23 (.slice none 0 0) (.slice none 0 0)).run Tryd.prog W = .ok (.bool true) W := fun W => Lib.run_eql_slice_nil_nil W _ _ Tryd.underlying23
  have hlen := dlen_any w h (by omega)
  have HD := Aside0.mk h
  clear h
  go_enter Tryd.func115, Tryd.ntmps115
  go_wp2_with (go_at_call 68; refine hlen.mono ?_)
  rintro e W0 ⟨rfl, k, hW0⟩
  have hD0 : Dc W0 b none 0 0 lr lasts room left := by rw [hW0]; exact HD.out
  have c0 := hD0.c0
  have c1 := hD0.c1
  have f0 := hD0.f 0
  have f1 := hD0.f 1
  have hbW := hD0.lt
  have HW0 := Lib.hid hW0
  have HD0 := Aside0.mk hD0
  clear hW0 hlen hD0
  have hwn : IntKind.i64.wrap (n : Int) = n := by rw [IntKind.wrap_i64]; omega
  go_wp2_with (go_at_call 114; refine (Tryd.Buffer_tryGrow_none_at b 0 _ 0 0 n _ c0 (Nat.le_refl _) (Nat.zero_le _) (by omega)).mono ?_; rintro e w' ⟨rfl, rfl⟩)
  go_region_with_o (
      go_at_call 137
      refine (Tryd.bytes_growSlice_nil n _ (by omega) hlim).mono ?_
      rintro e w2 ⟨cap2, cells, rfl, hN, hcsz, hcap2, hcm2, hbel⟩
      have hD2 : Dc w2 b none 0 0 lr lasts room left := (hbel.block b hbW).trans HD0.out
      have d0 := hD2.c0
      have d1 := hD2.c1
      have e0 := hD2.f 0
      have e1 := hD2.f 1)
  all_goals (
      go_wp2
      go_ret
      have hgr : w.grownBy w2 (some b) := grown_below (w1 := w'.drew) (by rw [HW0.out]; exact ⟨rfl, rfl, rfl, Nat.le_refl _, fun _ _ _ => rfl⟩) hbel
      have hne : w'.heap.size ≠ b := by omega
      have hsz : w.heap.size ≤ w'.heap.size := by rw [HW0.out]; exact Nat.le_refl _
      exact ⟨rfl, w'.heap.size, cap2, cells, ((hD2.s0 _ _ _).s1).s0 _ _ _, blk_far (blk_far (blk_far hN (p := ⟨b, 0, none⟩) hne _) (p := ⟨b, 1, none⟩) hne _) (p := ⟨b, 0, none⟩) hne _, hsz, hcsz, hcap2, hcm2, grown_set (grown_set (grown_set hgr 0 _) 1 _) 0 _⟩)
end Go.Proofs.YtbbhjceelghadaaDoor.K
end

section
-- from DiskW
namespace Go.Proofs.YtbbhjceelghadaaDoor.K
open Go Go.RowKit Go.Proofs.YtbbhjceelghadaaDoorW.PrintWords Go.Proofs.YtbbhjceelghadaaDoorW.PrintLast Go.Proofs.YtbbhjceelghadaaDoorW.PrintMore Go.Proofs.YtbbhjceelghadaaDoor.My
/-- The row of a disk's buffer: where it lies, what is in it. -/
def Rw (w : World) (b : Nat) (ao : Option Addr) (row : Option Nat) (cap : Nat) (bs : List UInt8) : Prop :=
  (ao = none ∧ row = none ∧ cap = 0 ∧ bs = []) ∨ ∃ g cur, ao = some ⟨g, 0, none⟩ ∧ row = some g ∧ g ≠ b ∧ w.heap[g]? = some (.cells cur 5 (0, 0)) ∧ bs.length ≤ cap ∧ cap ≤ maxLen ∧ cur.size = cap ∧ cur.toList.take bs.length = Lib.byteCells bs
/-- A disk: its bytes, how many last, its room, the calls left. -/
def Dk (w : World) (b : Nat) (row : Option Nat) (bs : List UInt8) (lasts room left : Int) : Prop :=
  ∃ ao cap lr, Dc w b ao bs.length cap lr lasts room left ∧ Rw w b ao row cap bs
/-- All old blocks but the disk's own and its row's stay. -/
structure Kb (b : Nat) (row : Option Nat) (w w' : World) : Prop where
  os : w'.os = w.os
  tape : w'.tape = w.tape
  output : w'.output = w.output
  size : w.heap.size ≤ w'.heap.size
  block : ∀ k, k < w.heap.size → k ≠ b → some k ≠ row → w'.heap[k]? = w.heap[k]?
/-- The row behind: the old one, or a new one. -/
def Nw (w : World) (row row' : Option Nat) : Prop := ∀ k, row' = some k → row = some k ∨ w.heap.size ≤ k
theorem Kb.of_grown {b : Nat} {row : Option Nat} {w w' : World} (h : w.grownBy w' (some b)) : Kb b row w w' :=
  ⟨h.os, h.tape, h.output, h.size, fun k hk hb _ => h.block k hk (fun e => hb (by injection e))⟩
theorem Kb.refl (b : Nat) (row : Option Nat) (w : World) : Kb b row w w := ⟨rfl, rfl, rfl, Nat.le_refl _, fun _ _ _ _ => rfl⟩
theorem Kb.trans {b : Nat} {row row' : Option Nat} {w w1 w2 : World} (h : Kb b row w w1) (hn : Nw w row row') (k : Kb b row' w1 w2) : Kb b row w w2 :=
  ⟨k.os.trans h.os, k.tape.trans h.tape, k.output.trans h.output, Nat.le_trans h.size k.size, fun i hi hb hr => (k.block i (Nat.lt_of_lt_of_le hi h.size) hb (fun e => (hn i e.symm).elim (fun h' => hr h'.symm) (fun h' => by omega))).trans (h.block i hi hb hr)⟩
theorem Kb.below {B b : Nat} {row : Option Nat} {w w' : World} (h : Kb b row w w') (hB : B ≤ w.heap.size) (hb : B ≤ b) (hr : ∀ k, row = some k → B ≤ k) : Below B w w' :=
  ⟨h.os, h.tape, h.output, h.size, fun k hk => h.block k (by omega) (by omega) (fun e => by have := hr k e.symm; omega)⟩
theorem Kb.setRow {b g : Nat} {w w1 : World} (h : Kb b (some g) w w1) (cs : Array Value) : Kb b (some g) w (w1.setRow g cs) :=
  ⟨h.os, h.tape, h.output, by simpa [World.setRow] using h.size, fun k hk hb hr => (setRow_other _ _ _ _ (fun e => hr (by rw [e]))).trans (h.block k hk hb hr)⟩
theorem src_cells {w : World} {a : Addr} {l : List UInt8} (h : kb.C w (some a) l.length l) : ∀ (j : Nat) (v : Value), (Lib.byteCells l)[j]? = some v → w.cell? (a.add j) = some v := by
  intro j v hj
  have hlt : j < l.length := by
    have := (List.getElem?_eq_some_iff.1 hj).1
    rwa [Lib.byteCells_length] at this
  obtain ⟨ad, e, hc⟩ := C_at h j hlt
  cases e
  rw [hc, ← hj]
  simp [Lib.byteCells, List.getElem?_eq_getElem hlt]
/-- Written: the row with the new bytes behind the old ones. -/
theorem written {w : World} {b g cap : Nat} {lr lasts room left : Int} {cur : Array Value} {bs l : List UInt8} (hD : Dc w b (some ⟨g, 0, none⟩) (bs.length + l.length) cap lr lasts room left) (hg : w.heap[g]? = some (.cells cur 5 (0, 0))) (hgb : g ≠ b) (hcs : cur.size = cap) (hcm : cap ≤ maxLen) (htk : cur.toList.take bs.length = Lib.byteCells bs) (hn : bs.length + l.length ≤ cap) :
    Dk (w.setRow g (cur.toList.take bs.length ++ Lib.byteCells l ++ cur.toList.drop (bs.length + (Lib.byteCells l).length)).toArray) b (some g) (bs ++ l) lasts room left := by
  have hcl : cur.toList.length = cap := (Array.length_toList (xs := cur)).trans hcs
  have hl : (cur.toList.take bs.length).length = bs.length := by rw [List.length_take]; omega
  refine ⟨some ⟨g, 0, none⟩, cap, lr, ?_, .inr ⟨g, _, rfl, rfl, hgb, setRow_heap w g cur _ _ (0, 0) hg, by rw [List.length_append]; exact hn, hcm, ?_, ?_⟩⟩
  · rw [List.length_append]
    exact (setRow_other _ _ _ _ (Ne.symm hgb)).trans hD
  · simp only [List.size_toArray, List.length_append, hl, List.length_drop, hcl, Lib.byteCells_length]; omega
  · rw [List.toList_toArray, List.take_append_of_le_length (by simp only [List.length_append, hl, Lib.byteCells_length]; exact Nat.le_refl _), List.take_of_length_le (by simp only [List.length_append, hl, Lib.byteCells_length]; exact Nat.le_refl _), htk]
    simp [Lib.byteCells]
end Go.Proofs.YtbbhjceelghadaaDoor.K
end

section
-- from DiskX
namespace Go.Proofs.YtbbhjceelghadaaDoor.K
open Go Go.RowKit Go.Proofs.YtbbhjceelghadaaDoorW.PrintWords Go.Proofs.YtbbhjceelghadaaDoorW.PrintLast Go.Proofs.YtbbhjceelghadaaDoorW.PrintMore Go.Proofs.YtbbhjceelghadaaDoor.My
theorem kb_row {b g : Nat} {row : Option Nat} {w w1 : World} (hn : Nw w row (some g)) (h : w.grownBy w1 (some b)) (cs : Array Value) : Kb b row w (w1.setRow g cs) :=
  (Kb.of_grown h).trans (fun k e => by cases e; exact hn g rfl) ((Kb.refl b (some g) w1).setRow cs)
def WPost (w : World) (b : Nat) (row : Option Nat) (bs l : List UInt8) (lasts room left : Int) (e : Ending) (w' : World) : Prop :=
  e = .returned (.tuple #[.int .i64 l.length, .nilIface]) ∧ ∃ row', Dk w' b row' (bs ++ l) lasts room left ∧ Nw w row row' ∧ Kb b row w w'
set_option maxHeartbeats 6400000 in
set_option maxRecDepth 100000 in
/-- There is room: at a row that lies there. -/
theorem dwrite_room {w : World} {b g2 cap2 : Nat} {lr lasts room left : Int} {cur2 : Array Value} {bs l : List UInt8} {a : Addr} {c : Nat} (hD : Dc w b (some ⟨g2, 0, none⟩) bs.length cap2 lr lasts room left) (hg : w.heap[g2]? = some (.cells cur2 5 (0, 0))) (hgb : g2 ≠ b) (hcs : cur2.size = cap2) (hcm : cap2 ≤ maxLen) (htk : cur2.toList.take bs.length = Lib.byteCells bs)
    (hC : kb.C w (some a) l.length l) (hab : a.block ≠ b) (hn : 0 < l.length) (hfit : bs.length + l.length ≤ cap2) :
    Calls Tryd.prog 69 #[.pointer (some ⟨b, 0, none⟩), .slice (some a) l.length c] w (WPost w b (some g2) bs l lasts room left) := by
  have hinfo : (Tryd.prog.info? 5).map (·.size) = some 1 := by kernel_rfl
  have c2 := hD.c2
  have f2 := hD.f 2
  have hD1 := hD.s2 0
  have hg1 := blk_far hg (p := ⟨b, 2, none⟩) hgb (.int .i8 0)
  have hgr1 : w.grownBy (w.setCell ⟨b, 2, none⟩ (.int .i8 0)) (some b) := Lib.grownBy_setCell w b 2 _
  unfold WPost
  go_enter Tryd.func69, Tryd.ntmps69
  go_wp2_with (go_at_call 114; refine (Tryd.Buffer_tryGrow_room_at b 0 _ bs.length cap2 l.length _ hD1.c0 (hD1.f 0) (by omega) hcm (by omega)).mono ?_)
  rintro e W1 ⟨rfl, hW1⟩
  have hD2 : Dc W1 b (some ⟨g2, 0, none⟩) (bs.length + l.length) cap2 0 lasts room left := by rw [hW1]; exact hD1.s0 _ _ _
  have hg2 : W1.heap[g2]? = some (.cells cur2 5 (0, 0)) := by rw [hW1]; exact blk_far hg1 (p := ⟨b, 0, none⟩) hgb _
  have hgr : w.grownBy W1 (some b) := by rw [hW1]; exact grown_set hgr1 0 _
  have hnw : Nw w (some g2) (some g2) := fun k e => .inl e
  clear hW1 hD1 hg1 hgr1 c2 f2 hD hg
  have hg2b := hgb; have hcs2 := hcs; have hcm2 := hcm; have htk2 := htk
  clear hgb hcs hcm htk
  have d0 := hD2.c0
  have hsrc1 : ∀ (j : Nat) (v : Value), (Lib.byteCells l)[j]? = some v → W1.cell? (a.add j) = some v := fun j v hj => hgr.cell (src_cells hC j v hj) (by rw [Lib.block_add]; exact fun e => hab (Option.some.inj e))
  have hcp := run_copy_row (P := Tryd.prog) W1 23 23 3 5 g2 bs.length l.length (cap2 - bs.length) a l.length c cur2 5 (Lib.byteCells l) Tryd.underlying23 hinfo hg2 (by rw [Lib.byteCells_length]; exact (Nat.min_self _).symm) hsrc1 (by rw [Lib.byteCells_length]; omega) (Lib.byteCells_one l)
  rw [show goInt (Lib.byteCells l).length = .int .i64 (l.length : Int) from by rw [Lib.byteCells_length]; rfl] at hcp
  have hne : ¬ cap2 = bs.length := by omega
  have HW := Aside0.mk (written hD2 hg2 hg2b hcs2 hcm2 htk2 hfit)
  have HN := Aside0.mk hnw
  have HG := Aside0.mk hgr
  unfold maxLen at hcm2
  clear hC hsrc1 hgr hnw htk2
  go_wp2
  go_ret2
  refine ⟨rfl, some g2, by rw [← List.append_assoc]; exact HW.out, HN.out, ?_⟩
  exact kb_row HN.out HG.out _
/-- grow, wherever there is no room. -/
theorem dgrow_any {w : World} {b cap2 n : Nat} {lr lasts room left : Int} {ao : Option Addr} {row : Option Nat} {bs : List UInt8} (hD : Dc w b ao bs.length cap2 lr lasts room left) (hR : Rw w b ao row cap2 bs) (hn : 1 ≤ n) (hroom : cap2 - bs.length < n) (hlim : bs.length + n ≤ 140737488355328) :
    Calls Tryd.prog 115 #[.pointer (some ⟨b, 0, none⟩), .int .i64 n] w fun e w' => e = .returned (.int .i64 bs.length) ∧ ∃ g2 cap2 cells, Dc w' b (some ⟨g2, 0, none⟩) (bs.length + n) cap2 lr lasts room left ∧ w'.heap[g2]? = some (.cells cells 5 (0, 0)) ∧ w.heap.size ≤ g2 ∧
      cells.size = cap2 ∧ cells.toList.take bs.length = Lib.byteCells bs ∧ bs.length + n ≤ cap2 ∧ cap2 ≤ maxLen ∧ w.grownBy w' (some b) := by
  rcases hR with ⟨rfl, _, rfl, rfl⟩ | ⟨g2, cur2, rfl, _, _, hg, hlc, hcm, hcs, htk⟩
  · have key : ∀ {e : Ending} {w' : World}, (e = .returned (.int .i64 0) ∧ ∃ g2 cap2 cells, Dc w' b (some ⟨g2, 0, none⟩) n cap2 lr lasts room left ∧ w'.heap[g2]? = some (.cells cells 5 (0, 0)) ∧ w.heap.size ≤ g2 ∧ cells.size = cap2 ∧ n ≤ cap2 ∧ cap2 ≤ maxLen ∧ w.grownBy w' (some b)) →
        (e = .returned (.int .i64 ([] : List UInt8).length) ∧ ∃ g2 cap2 cells, Dc w' b (some ⟨g2, 0, none⟩) (([] : List UInt8).length + n) cap2 lr lasts room left ∧ w'.heap[g2]? = some (.cells cells 5 (0, 0)) ∧ w.heap.size ≤ g2 ∧
      cells.size = cap2 ∧ cells.toList.take ([] : List UInt8).length = Lib.byteCells [] ∧ ([] : List UInt8).length + n ≤ cap2 ∧ cap2 ≤ maxLen ∧ w.grownBy w' (some b)) := by
      rintro e w' ⟨rfl, g2, cap2, cells, q1, q2, q3, q4, q5, q6, q7⟩
      exact ⟨rfl, g2, cap2, cells, by simpa using q1, q2, q3, q4, by simp [Lib.byteCells], by simpa using q5, q6, q7⟩
    by_cases h64 : n ≤ 64
    · exact (dgrow_small w hD hn h64).mono (fun _ _ h => key h)
    · exact (dgrow_big w hD (by omega) (by simpa using hlim)).mono (fun _ _ h => key h)
  · refine (dgrow_row w hD hg hlc hcm hcs (by rw [htk]; exact Lib.byteCells_one bs) hn hroom hlim).mono ?_
    rintro e w' ⟨rfl, g2, cap2, cells, q1, q2, q3, q4, q5, q6, q7, q8⟩
    exact ⟨rfl, g2, cap2, cells, q1, q2, q3, q4, q5.trans htk, q6, q7, q8⟩
end Go.Proofs.YtbbhjceelghadaaDoor.K
end

section
-- from DiskY
namespace Go.Proofs.YtbbhjceelghadaaDoor.K
open Go Go.RowKit Go.Proofs.YtbbhjceelghadaaDoorW.PrintWords Go.Proofs.YtbbhjceelghadaaDoorW.PrintLast Go.Proofs.YtbbhjceelghadaaDoorW.PrintMore Go.Proofs.YtbbhjceelghadaaDoor.My
set_option maxHeartbeats 6400000 in
set_option maxRecDepth 100000 in
/-- There is no room: the row is a new one. -/
theorem dwrite_grow {w : World} {b cap : Nat} {lr lasts room left : Int} {ao : Option Addr} {row : Option Nat} {bs l : List UInt8} {a : Addr} {c : Nat} (hD : Dc w b ao bs.length cap lr lasts room left) (hR : Rw w b ao row cap bs)
    (hC : kb.C w (some a) l.length l) (hab : a.block ≠ b) (hn : 0 < l.length) (hroom : cap - bs.length < l.length) (hlim : bs.length + l.length ≤ 140737488355328) :
    Calls Tryd.prog 69 #[.pointer (some ⟨b, 0, none⟩), .slice (some a) l.length c] w (WPost w b row bs l lasts room left) := by
  have hinfo : (Tryd.prog.info? 5).map (·.size) = some 1 := by kernel_rfl
  obtain ⟨hlc, hcm⟩ : bs.length ≤ cap ∧ cap ≤ maxLen := by
    rcases hR with ⟨_, _, rfl, rfl⟩ | ⟨_, _, _, _, _, _, h1, h2, _⟩
    · exact ⟨Nat.le_refl _, Nat.zero_le _⟩
    · exact ⟨h1, h2⟩
  have c2 := hD.c2
  have f2 := hD.f 2
  have hD1 := hD.s2 0
  have hR1 : Rw (w.setCell ⟨b, 2, none⟩ (.int .i8 0)) b ao row cap bs := by
    rcases hR with h | ⟨g, cur, h1, h2, h3, h4, h5⟩
    · exact .inl h
    · exact .inr ⟨g, cur, h1, h2, h3, blk_far h4 (p := ⟨b, 2, none⟩) h3 _, h5⟩
  have hgr1 : w.grownBy (w.setCell ⟨b, 2, none⟩ (.int .i8 0)) (some b) := Lib.grownBy_setCell w b 2 _
  have hgrow := dgrow_any hD1 hR1 (n := l.length) (by omega) hroom hlim
  have hsz1 := hgr1.size
  have hbw := hD.lt
  unfold WPost
  go_enter Tryd.func69, Tryd.ntmps69
  go_wp2_with (go_at_call 114; refine (Tryd.Buffer_tryGrow_none_at b 0 _ bs.length cap l.length _ hD1.c0 hlc hcm hroom).mono ?_; rintro e w' ⟨rfl, hw'⟩; subst hw')
  clear hD hR hR1 c2 f2 hD1
  go_wp2_with (go_at_call 115; refine hgrow.mono ?_)
  rintro e W1 ⟨rfl, g2, cap2, cur2, hD2, hg2, hnew, hcs2, htk2, hfit, hcm2, hgr2⟩
  have hgr : w.grownBy W1 (some b) := Lib.grownBy_trans hgr1 hgr2
  have hg2b : g2 ≠ b := by omega
  have hnw : Nw w row (some g2) := fun k e => .inr (by cases e; omega)
  clear hgrow hgr1 hgr2 hnew hcm
  have d0 := hD2.c0
  have hsrc1 : ∀ (j : Nat) (v : Value), (Lib.byteCells l)[j]? = some v → W1.cell? (a.add j) = some v := fun j v hj => hgr.cell (src_cells hC j v hj) (by rw [Lib.block_add]; exact fun e => hab (Option.some.inj e))
  have hcp := run_copy_row (P := Tryd.prog) W1 23 23 3 5 g2 bs.length l.length (cap2 - bs.length) a l.length c cur2 5 (Lib.byteCells l) Tryd.underlying23 hinfo hg2 (by rw [Lib.byteCells_length]; exact (Nat.min_self _).symm) hsrc1 (by rw [Lib.byteCells_length]; omega) (Lib.byteCells_one l)
  rw [show goInt (Lib.byteCells l).length = .int .i64 (l.length : Int) from by rw [Lib.byteCells_length]; rfl] at hcp
  have hne : ¬ cap2 = bs.length := by omega
  have HW := Aside0.mk (written hD2 hg2 hg2b hcs2 hcm2 htk2 hfit)
  have HN := Aside0.mk hnw
  have HG := Aside0.mk hgr
  unfold maxLen at hcm2
  clear hC hsrc1 hgr hnw htk2
  go_wp2
  go_ret2
  refine ⟨rfl, some g2, by rw [← List.append_assoc]; exact HW.out, HN.out, ?_⟩
  exact kb_row HN.out HG.out _
set_option maxHeartbeats 6400000 in
set_option maxRecDepth 100000 in
/-- No bytes. -/
theorem dwrite_none {w : World} {b cap : Nat} {lr lasts room left : Int} {ao : Option Addr} {row : Option Nat} {bs : List UInt8} {A : Option Addr} {c : Nat} (hD : Dc w b ao bs.length cap lr lasts room left) (hR : Rw w b ao row cap bs) :
    Calls Tryd.prog 69 #[.pointer (some ⟨b, 0, none⟩), .slice A 0 c] w (WPost w b row bs [] lasts room left) := by
  have hinfo : (Tryd.prog.info? 5).map (·.size) = some 1 := by kernel_rfl
  obtain ⟨hlc, hcm⟩ : bs.length ≤ cap ∧ cap ≤ maxLen := by
    rcases hR with ⟨_, _, rfl, rfl⟩ | ⟨_, _, _, _, _, _, h1, h2, _⟩
    · exact ⟨Nat.le_refl _, Nat.zero_le _⟩
    · exact ⟨h1, h2⟩
  have hce : ∀ d dLen dCap W, (Builtin.copy_ #[23, 23] 3 #[.slice d dLen dCap, .slice A 0 c]).run Tryd.prog W = .ok (goInt 0) W := fun d dLen dCap W => run_copy_none W 23 23 3 5 d A dLen dCap 0 c Tryd.underlying23 hinfo (by simp)
  have c2 := hD.c2
  have f2 := hD.f 2
  have hD1 := hD.s2 0
  have hR1 : Rw (w.setCell ⟨b, 2, none⟩ (.int .i8 0)) b ao row cap bs := by
    rcases hR with h | ⟨g, cur, h1, h2, h3, h4, h5⟩
    · exact .inl h
    · exact .inr ⟨g, cur, h1, h2, h3, blk_far h4 (p := ⟨b, 2, none⟩) h3 _, h5⟩
  have hgr1 : w.grownBy (w.setCell ⟨b, 2, none⟩ (.int .i8 0)) (some b) := Lib.grownBy_setCell w b 2 _
  unfold WPost
  go_enter Tryd.func69, Tryd.ntmps69
  go_wp2_with (go_at_call 114; refine (Tryd.Buffer_tryGrow_room_at b 0 _ bs.length cap 0 _ hD1.c0 (hD1.f 0) hlc hcm (Nat.zero_le _)).mono ?_)
  rintro e W1 ⟨rfl, hW1⟩
  have hD2 : Dc W1 b ao bs.length cap 0 lasts room left := by rw [hW1]; exact hD1.s0 _ _ _
  have hR2 : Rw W1 b ao row cap bs := by
    rw [hW1]
    rcases hR1 with h | ⟨g, cur, h1, h2, h3, h4, h5⟩
    · exact .inl h
    · exact .inr ⟨g, cur, h1, h2, h3, blk_far h4 (p := ⟨b, 0, none⟩) h3 _, h5⟩
  have hgr : w.grownBy W1 (some b) := by rw [hW1]; exact grown_set hgr1 0 _
  clear hW1 hD1 hR1 hgr1 c2 f2 hD hR
  have HF := Aside0.mk (And.intro (show Dk W1 b row (bs ++ []) lasts room left from by rw [List.append_nil]; exact ⟨ao, cap, 0, hD2, hR2⟩) (Kb.of_grown (row := row) hgr))
  rcases hR2 with ⟨rfl, rfl, rfl, rfl⟩ | ⟨g, cur, rfl, rfl, _, _, _, _, _, _⟩
  · have d0 : W1.cell? ⟨b, 0, none⟩ = some (.slice none 0 0) := hD2.c0
    clear hD2 hgr
    go_wp2
    all_goals (go_ret2; exact ⟨rfl, _, (by first | exact HF.out.1 | simpa using HF.out.1), fun k e => .inl e, HF.out.2⟩)
  · have d0 := hD2.c0
    clear hD2 hgr
    unfold maxLen at hcm
    go_wp2
    all_goals (go_ret2; exact ⟨rfl, _, (by first | exact HF.out.1 | simpa using HF.out.1), fun k e => .inl e, HF.out.2⟩)
/-- (*bytes.Buffer).Write, of a disk's buffer. -/
theorem dwrite_any {w : World} {b : Nat} {row : Option Nat} {bs l : List UInt8} {lasts room left : Int} {A : Option Addr} {c : Nat} (h : Dk w b row bs lasts room left) (hC : kb.C w A l.length l) (hab : ∀ a, A = some a → 0 < l.length → a.block ≠ b) (hlim : bs.length + l.length ≤ 140737488355328) :
    Calls Tryd.prog 69 #[.pointer (some ⟨b, 0, none⟩), .slice A l.length c] w (WPost w b row bs l lasts room left) := by
  obtain ⟨ao, cap, lr, hD, hR⟩ := h
  rcases Nat.eq_zero_or_pos l.length with h0 | h0
  · obtain rfl := List.eq_nil_of_length_eq_zero h0
    exact dwrite_none hD hR
  · obtain ⟨a, rfl, _⟩ := C_at hC 0 h0
    by_cases hr : cap - bs.length < l.length
    · exact dwrite_grow hD hR hC (hab a rfl h0) h0 hr hlim
    · rcases hR with ⟨_, _, rfl, rfl⟩ | ⟨g, cur, rfl, rfl, h3, h4, h5, h6, h7, h8⟩
      · exact absurd hr (by simp; omega)
      · exact dwrite_room hD h4 h3 h7 h6 h8 hC (hab a rfl h0) h0 (by omega)
end Go.Proofs.YtbbhjceelghadaaDoor.K
end

section
-- from DiskZ
namespace Go.Proofs.YtbbhjceelghadaaDoor.K
open Go Go.RowKit Go.Proofs.YtbbhjceelghadaaDoorW.PrintWords Go.Proofs.YtbbhjceelghadaaDoorW.PrintLast Go.Proofs.YtbbhjceelghadaaDoorW.PrintMore Go.Proofs.YtbbhjceelghadaaDoor.My
theorem Kb.grown0 {b : Nat} (w : World) : w.grownBy w (some b) := ⟨rfl, rfl, rfl, Nat.le_refl _, fun _ _ _ => rfl⟩
theorem Rw.kept {w w' : World} {b : Nat} {ao : Option Addr} {row : Option Nat} {cap : Nat} {bs : List UInt8} (h : Rw w b ao row cap bs) (hg : w.grownBy w' (some b)) : Rw w' b ao row cap bs := by
  rcases h with h | ⟨g, cur, h1, h2, h3, h4, h5⟩
  · exact .inl h
  · exact .inr ⟨g, cur, h1, h2, h3, (hg.block g (blk_lt h4) (fun e => h3 (by injection e))).trans h4, h5⟩
theorem Rw.take {w : World} {b : Nat} {ao : Option Addr} {row : Option Nat} {cap : Nat} {bs : List UInt8} (h : Rw w b ao row cap bs) (n : Nat) : Rw w b ao row cap (bs.take n) := by
  rcases h with ⟨h1, h2, h3, rfl⟩ | ⟨g, cur, h1, h2, h3, h4, h5, h6, h7, h8⟩
  · exact .inl ⟨h1, h2, h3, List.take_nil⟩
  · refine .inr ⟨g, cur, h1, h2, h3, h4, by rw [List.length_take]; omega, h6, h7, ?_⟩
    rw [List.length_take, ← List.take_take, h8]
    simp [Lib.byteCells, List.map_take]
set_option maxHeartbeats 3200000 in
theorem dreset_any {w : World} {b cap : Nat} {lr lasts room left : Int} {ao : Option Addr} {row : Option Nat} {bs : List UInt8} (hD : Dc w b ao bs.length cap lr lasts room left) (hR : Rw w b ao row cap bs) :
    Calls Tryd.prog 136 #[.pointer (some ⟨b, 0, none⟩)] w fun e w' => e = .returned (.tuple #[]) ∧ Dk w' b row [] lasts room left ∧ w.grownBy w' (some b) := by
  have HR := Aside0.mk hR
  have HD := Aside0.mk hD
  have c0 := hD.c0
  have c1 := hD.c1
  have c2 := hD.c2
  have f0 := hD.f 0
  have f1 := hD.f 1
  have f2 := hD.f 2
  clear hD hR
  rcases HR.out with ⟨rfl, rfl, rfl, rfl⟩ | ⟨g, cur, rfl, rfl, _, _, h5, h6, _, _⟩
  · go_enter Tryd.func136, Tryd.ntmps136
    go_wp2
    go_end0
    have hg := grown_set (grown_set (grown_set (b := b) (Kb.grown0 w) 0 (.slice none 0 0)) 1 (.int .i64 0)) 2 (.int .i8 0)
    exact ⟨rfl, ⟨none, 0, 0, ((HD.out.s0 none 0 0).s1).s2 0, HR.out.kept hg⟩, hg⟩
  · unfold maxLen at h6
    go_enter Tryd.func136, Tryd.ntmps136
    go_wp2
    go_end0
    have hg := grown_set (grown_set (grown_set (b := b) (Kb.grown0 w) 0 (.slice (some ⟨g, 0, none⟩) 0 cap)) 1 (.int .i64 0)) 2 (.int .i8 0)
    exact ⟨rfl, ⟨some ⟨g, 0, none⟩, cap, 0, ((HD.out.s0 (some ⟨g, 0, none⟩) 0 cap).s1).s2 0, (HR.out.take 0).kept hg⟩, hg⟩
set_option maxHeartbeats 3200000 in
/-- (*bytes.Buffer).Truncate: a front. -/
theorem dtrunc_any {w : World} {b n : Nat} {row : Option Nat} {bs : List UInt8} {lasts room left : Int} (h : Dk w b row bs lasts room left) (hn : n ≤ bs.length) (hbs : bs.length ≤ 140737488355328) :
    Calls Tryd.prog 116 #[.pointer (some ⟨b, 0, none⟩), .int .i64 n] w fun e w' => e = .returned (.tuple #[]) ∧ Dk w' b row (bs.take n) lasts room left ∧ w.grownBy w' (some b) := by
  obtain ⟨ao, cap, lr, hD, hR⟩ := h
  rcases Nat.eq_zero_or_pos n with rfl | h0
  · have hr := dreset_any hD hR
    go_enter Tryd.func116, Tryd.ntmps116
    go_wp2_with (go_at_call 136; refine hr.mono ?_; rintro e w' ⟨rfl, h1, h2⟩)
    refine bodyPost_ret (results_none rfl _ _ _) rfl ?_
    exact ⟨rfl, h1, h2⟩
  · rcases hR with ⟨rfl, rfl, rfl, rfl⟩ | ⟨g, cur, rfl, rfl, h3, h4, h5, h6, h7, h8⟩
    · exact absurd hn (by simp; omega)
    · have HR := Aside0.mk (show Rw w b (some ⟨g, 0, none⟩) (some g) cap bs from .inr ⟨g, cur, rfl, rfl, h3, h4, h5, h6, h7, h8⟩)
      unfold maxLen at h6
      have c2 := hD.c2
      have f2 := hD.f 2
      have hD1 := hD.s2 0
      have c0 := hD1.c0
      have c1 := hD1.c1
      have f0 := hD1.f 0
      have hlen := dlen_any _ hD1 (by omega)
      have HD := Aside0.mk hD1
      clear hD hD1 h3 h4 h7 h8
      go_enter Tryd.func116, Tryd.ntmps116
      go_wp2_with (go_at_call 68; refine hlen.mono ?_)
      rintro e W1 ⟨rfl, k, hW1⟩
      have hD2 : Dc W1 b (some ⟨g, 0, none⟩) bs.length cap 0 lasts room left := by rw [hW1]; exact HD.out
      have hg1 : w.grownBy W1 (some b) := by rw [hW1]; exact ⟨rfl, rfl, rfl, (Lib.grownBy_setCell w b 2 (.int .i8 0)).size, (Lib.grownBy_setCell w b 2 (.int .i8 0)).block⟩
      have d0 := hD2.c0
      have d1 := hD2.c1
      have e0 := hD2.f 0
      have HD2 := Aside0.mk hD2
      have HG := Aside0.mk hg1
      have mixed : Tryd.prog.follows Departure.mixedOrders = true := by kernel_rfl
      have hwn : IntKind.i64.wrap (n : Int) = n := by rw [IntKind.wrap_i64]; omega
      clear hD2 hg1 hlen hW1 c0 c1 c2 f0 f2
      go_wp2
      go_region_o
      all_goals (
        go_wp2
        go_end0
        have hg := grown_set (w1 := W1.drew) ⟨HG.out.os, HG.out.tape, HG.out.output, HG.out.size, HG.out.block⟩ 0 (.slice (some ⟨g, 0, none⟩) n cap)
        have hl : (bs.take n).length = n := by rw [List.length_take]; omega
        refine ⟨rfl, ⟨some ⟨g, 0, none⟩, cap, 0, ?_, (HR.out.take n).kept hg⟩, hg⟩
        rw [hl]
        exact Dc.s0 (w := W1.drew) HD2.out _ _ _)
end Go.Proofs.YtbbhjceelghadaaDoor.K
end

section
-- from DiskF
namespace Go.Proofs.YtbbhjceelghadaaDoor.K
open Go Go.RowKit Go.Proofs.YtbbhjceelghadaaDoorW.PrintWords Go.Proofs.YtbbhjceelghadaaDoorW.PrintLast Go.Proofs.YtbbhjceelghadaaDoorW.PrintMore Go.Proofs.YtbbhjceelghadaaDoor.My
attribute [local go_sem] max2_int min2_int max_two min_two
set_option maxHeartbeats 1600000 in
theorem dleave_any {w : World} {b n : Nat} {row : Option Nat} {bs : List UInt8} {lasts room left : Int} (h : Dk w b row bs lasts room left) (hn : n ≤ bs.length) (hbs : bs.length ≤ 140737488355328) :
    Calls Tryd.prog 71 #[.pointer (some ⟨b, 0, none⟩), .int .i64 n] w fun e w' => e = .returned (.tuple #[]) ∧ Dk w' b row (bs.take n) (mn lasts n) room left ∧ w.grownBy w' (some b) := by
  have ht := dtrunc_any h hn hbs
  obtain ⟨ao, cap, lr, hD, _⟩ := h
  go_enter Tryd.func71, Tryd.ntmps71
  go_wp2_with (go_at_call 116; refine ht.mono ?_)
  rintro e W1 ⟨rfl, hK, hG⟩
  clear ht hD
  have HG := Aside0.mk hG
  obtain ⟨ao1, cap1, lr1, hD1, hR1⟩ := hK
  have c3 := hD1.c3
  have f3 := hD1.f 3
  have HD := Aside0.mk hD1
  have HR := Aside0.mk hR1
  clear hD1 hR1 hG
  go_wp2
  all_goals (
    go_end0
    refine ⟨rfl, ⟨ao1, cap1, lr1, ?_, HR.out.kept (grown_set (b := b) (Kb.grown0 W1) 3 _)⟩, grown_set HG.out 3 _⟩
    unfold mn
    split <;> first | exact HD.out.s3 _ | (exfalso; omega))
end Go.Proofs.YtbbhjceelghadaaDoor.K
end

section
-- from BytesC
namespace Go.Proofs.YtbbhjceelghadaaDoor.My
open Go Go.RowKit Go.Proofs.YtbbhjceelghadaaDoorW.PrintWords
/-- A row of bytes that is new. -/
def OB (w : World) (base : Nat) (v : Value) (l : List UInt8) : Prop := kb.R 5 w base (fun _ => True) v l
theorem OB.below {w w' : World} {base : Nat} {v : Value} {l : List UInt8} (h : OB w base v l) (hb : Below w.heap.size w w') : OB w' base v l := Kd.R_below h hb
theorem OB.reads {w : World} {base : Nat} {v : Value} {l : List UInt8} (h : OB w base v l) : ∃ A c, v = .slice A l.length c ∧ l.length ≤ c ∧ kb.C w A l.length l := Kd.R_reads h
theorem OB.lower {w : World} {base base' : Nat} {v : Value} {l : List UInt8} (h : OB w base v l) (hb : base' ≤ base) : OB w base' v l := Kd.R_lower h hb
theorem OB.nil (w : World) (base : Nat) : OB w base (.slice none 0 0) [] := Kd.R_nil _ _ _ _ _
theorem info_u8' : (Tryd.prog.info? 5).map (fun i => (i.zero, i.size, i.bytes)) = some (some (.int .u8 0), kb.sz, 1) := by kernel_rfl
theorem OB.empty (w : World) : OB (w.alloc (.cells #[] 5)) w.heap.size (.slice (some ⟨w.heap.size, 0, none⟩) 0 0) [] := by
  refine Kd.R_of_own ?_ (fun _ _ => trivial)
  have h := World.ownsRow_lit (base := w.heap.size) (e := 5) (size := 1) w #[] 0 (Nat.le_refl _) (by simp) (by simp)
  simpa [encs] using h
theorem C_none {w : World} {n : Nat} {l : List UInt8} (h : kb.C w none n l) : l = [] ∧ n = 0 := by
  have h1 := h.1
  rcases Nat.eq_zero_or_pos n with h0 | h0
  · subst h0; exact ⟨List.length_eq_zero_iff.1 h1, rfl⟩
  · obtain ⟨ad, e, _⟩ := h.2.2 h0; cases e
set_option maxHeartbeats 1000000 in
theorem bclone_any (A : Option Addr) (c : Nat) (l : List UInt8) (w : World) (hr : kb.C w A l.length l) (hc : l.length ≤ c) (hs : l.length ≤ 140737488355327) :
    Calls Tryd.prog 72 #[.slice A l.length c] w fun e w' => ∃ v, e = .returned v ∧ OB w' w.heap.size v l ∧ Below w.heap.size w w' := by
  cases A with
  | none =>
    obtain ⟨rfl, _⟩ := C_none hr
    have hnil := fun (w : World) (a : Option Addr) (n c : Nat) => Lib.run_eql_slice_nil (P := Tryd.prog) w 23 5 a n c 0 0 Tryd.underlying23
    go_enter Tryd.func72, Tryd.ntmps72
    go_wp2
    go_ret
    exact ⟨_, rfl, OB.nil _ _, Below.refl _ _⟩
  | some ad =>
    have HL := Aside0.mk hr
    clear hr
    have hnil := fun (w : World) (a : Option Addr) (n c : Nat) => Lib.run_eql_slice_nil (P := Tryd.prog) w 23 5 a n c 0 0 Tryd.underlying23
    go_enter Tryd.func72, Tryd.ntmps72
    go_wp2_with (at_builtin; refine Kd.R_append_rows kb (w0 := w) w.heap.size rfl (.tmp 5) (.tmp 6) 23 5 (.int .u8 0) 1 rfl Tryd.underlying23 info_u8' rfl (by decide) (by omega) (.slice (some ⟨w.heap.size, 0, none⟩) 0 0) [] l _ _ _ (fun _ => True) (fun _ => False) rfl rfl (OB.empty w) ?aR (fun _ _ h => h) (fun _ h => h.elim) (fun _ _ => trivial) ?aB ?aS ?aL ?_; (case aR => exact Kd.C_below HL.out (by (repeat (first | exact Below.refl _ _ | apply below_alloc | apply below_drew | apply pw_below_drewN | apply below_bytesWorld | (refine below_set ?_ (by first | assumption | omega)) | refine below_step ?_ (by assumption))))); (case aB => (repeat (first | exact Below.refl _ _ | apply below_alloc | apply below_drew | apply pw_below_drewN | apply below_bytesWorld | (refine below_set ?_ (by first | assumption | omega)) | refine below_step ?_ (by assumption)))); (case aS => exact below_size (by (repeat (first | exact Below.refl _ _ | apply below_alloc | apply below_drew | apply pw_below_drewN | apply below_bytesWorld | (refine below_set ?_ (by first | assumption | omega)) | refine below_step ?_ (by assumption))))); (case aL => simp; omega); intro v1 w2 HO HB hg hat)
    go_ret
    exact ⟨_, rfl, HO, HB⟩
end Go.Proofs.YtbbhjceelghadaaDoor.My
end

section
-- from DiskB
namespace Go.Proofs.YtbbhjceelghadaaDoor.K
open Go Go.RowKit Go.Proofs.YtbbhjceelghadaaDoorW.PrintWords Go.Proofs.YtbbhjceelghadaaDoorW.PrintLast Go.Proofs.YtbbhjceelghadaaDoorW.PrintMore Go.Proofs.YtbbhjceelghadaaDoor.My
theorem Rw.reads {w : World} {b : Nat} {ao : Option Addr} {row : Option Nat} {cap : Nat} {bs : List UInt8} (h : Rw w b ao row cap bs) : kb.C w ao bs.length bs ∧ bs.length ≤ cap ∧ cap ≤ maxLen := by
  rcases h with ⟨rfl, rfl, rfl, rfl⟩ | ⟨g, cur, rfl, rfl, h3, h4, h5, h6, h7, h8⟩
  · exact ⟨Kd.C_nil _ _, Nat.le_refl _, Nat.zero_le _⟩
  · have hR : kb.R 5 w 0 (fun _ => True) (.slice (some ⟨g, 0, none⟩) bs.length cap) bs := by
      refine Kd.R_of_own ?_ (fun _ _ => trivial)
      refine ⟨by simp [encs, Lib.byteCells], .inr ⟨g, cap, cur, rfl, Nat.zero_le _, h4, h5, h6, by rw [h7]; show cap = cap * 1; omega, ?_⟩⟩
      show cur.toList.take (bs.length * 1) = _
      rw [Nat.mul_one, h8]
      simp [encs, Lib.byteCells]
    exact ⟨(kb_R hR).2.2, h5, h6⟩
set_option maxHeartbeats 3200000 in
theorem dbytes_any {w : World} {b cap : Nat} {lr lasts room left : Int} {ao : Option Addr} {row : Option Nat} {bs : List UInt8} (hD : Dc w b ao bs.length cap lr lasts room left) (hR : Rw w b ao row cap bs) :
    Calls Tryd.prog 73 #[.pointer (some ⟨b, 0, none⟩)] w fun e w' => e = .returned (.slice ao bs.length cap) ∧ ∃ n, w' = w.drewN n := by
  have mixed : Tryd.prog.follows Departure.mixedOrders = true := by kernel_rfl
  have c0 := hD.c0
  have c1 := hD.c1
  rcases hR with ⟨rfl, rfl, rfl, rfl⟩ | ⟨g, cur, rfl, rfl, _, _, h5, h6, _, _⟩
  · clear hD
    go_enter Tryd.func73, Tryd.ntmps73
    go_wp2
    go_region_o
    all_goals (go_wp2; go_ret; exact ⟨rfl, 1, rfl⟩)
  · clear hD
    unfold maxLen at h6
    go_enter Tryd.func73, Tryd.ntmps73
    go_wp2
    go_region_o
    all_goals (go_wp2; go_ret; exact ⟨by simp, 1, rfl⟩)
theorem kept_drewN {b : Nat} {row : Option Nat} {w : World} {bs : List UInt8} {lasts room left : Int} (h : Dk w b row bs lasts room left) (n : Nat) : Dk (w.drewN n) b row bs lasts room left := h
set_option maxHeartbeats 3200000 in
/-- Disk.Read: its bytes, new. -/
theorem dread_any {w : World} {b : Nat} {row : Option Nat} {bs : List UInt8} {lasts room left : Int} (h : Dk w b row bs lasts room left) (hbs : bs.length ≤ 140737488355327) :
    Calls Tryd.prog 29 #[.pointer (some ⟨b, 0, none⟩)] w fun e w' => ∃ v, e = .returned v ∧ OB w' w.heap.size v bs ∧ Below w.heap.size w w' := by
  obtain ⟨ao, cap, lr, hD, hR⟩ := h
  have hb := dbytes_any hD hR
  obtain ⟨hC, hc, _⟩ := hR.reads
  clear hD hR
  have HC := Aside0.mk hC
  clear hC
  go_enter Tryd.func29, Tryd.ntmps29
  go_wp2_with (go_at_call 73; refine hb.mono ?_)
  rintro e W1 ⟨rfl, k, hW1⟩
  have hbel : Below w.heap.size w W1 := by rw [hW1]; exact pw_below_drewN (Below.refl _ _) k
  have hcl := bclone_any ao cap bs W1 (Kd.C_below HC.out hbel) hc hbs
  have HB := Aside0.mk hbel
  clear hW1 hbel hb
  go_wp2_with (go_at_call 72; refine hcl.mono ?_)
  rintro e w2 ⟨v, rfl, hv, hb2⟩
  have HV := Aside0.mk hv
  have HB2 := Aside0.mk hb2
  clear hcl hv hb2
  go_wp2
  go_ret
  exact ⟨v, rfl, HV.out.lower (below_size HB.out), below_step HB.out HB2.out⟩
end Go.Proofs.YtbbhjceelghadaaDoor.K
end

section
-- from DiskC
namespace Go.Proofs.YtbbhjceelghadaaDoor.K
open Go Go.RowKit Go.Proofs.YtbbhjceelghadaaDoorW.PrintWords Go.Proofs.YtbbhjceelghadaaDoorW.PrintLast Go.Proofs.YtbbhjceelghadaaDoorW.PrintMore Go.Proofs.YtbbhjceelghadaaDoor.My
theorem max2_mx (x y : Int) : Builtin.max2 (.int .i64 x) (.int .i64 y) = pure (.int .i64 (mx x y)) := max2_int _ _ x y
theorem min2_mn (x y : Int) : Builtin.min2 (.int .i64 x) (.int .i64 y) = pure (.int .i64 (mn x y)) := min2_int _ _ x y
attribute [local go_sem] max2_mx min2_mn max_two min_two
set_option maxHeartbeats 6400000 in
set_option maxRecDepth 20000 in
theorem dcrash_any {w : World} {b k : Nat} {row : Option Nat} {bs : List UInt8} {lasts room left : Int} (keep : Int) (h : Dk w b row bs lasts room left) (hbs : bs.length ≤ 140737488355327) (hl0 : 0 ≤ lasts) (hl1 : lasts ≤ bs.length) (hk : (k : Int) = lasts + mn (mx keep 0) (bs.length - lasts)) :
    Calls Tryd.prog 28 #[.pointer (some ⟨b, 0, none⟩), .int .i64 keep] w fun e w' => e = .returned (.tuple #[]) ∧ Dk w' b row (bs.take k) k room (-1) ∧ w.grownBy w' (some b) := by
  have mixed : Tryd.prog.follows Departure.mixedOrders = true := by kernel_rfl
  have HK := Aside0.mk h
  obtain ⟨ao, cap, lr, hD, hR⟩ := h
  have HD := Aside0.mk hD
  have c3 := hD.c3
  have hlen := fun n => dlen_any (w.drewN n) (show Dc (w.drewN n) b ao bs.length cap lr lasts room left from hD) (by omega)
  have hkl : k ≤ bs.length := by unfold mn mx at hk; split at hk <;> split at hk <;> omega
  have hlv := fun n => dleave_any (w := w.drewN n) (kept_drewN HK.out n) hkl (by omega)
  have hw1 : IntKind.i64.wrap ((bs.length : Int) - lasts) = bs.length - lasts := by rw [IntKind.wrap_i64]; omega
  have hw2 : IntKind.i64.wrap (lasts + mn (mx keep 0) ((bs.length : Int) - lasts)) = k := by rw [← hk, IntKind.wrap_i64]; omega
  have HKK := Aside0.mk hk
  clear hD hR hk
  go_enter Tryd.func28, Tryd.ntmps28
  go_wp2
  go_quiet ((go_at_call 68; exact Calls.quiet_of (hlen _)))
  go_wp2_with (go_at_call 71; refine (hlv _).mono ?_)
  rintro e W1 ⟨rfl, hK1, hG1⟩
  have hG2 : w.grownBy W1 (some b) := Lib.grownBy_trans (grown_below (Kb.grown0 w) (pw_below_drewN (Below.refl _ _) nq)) hG1
  have HG := Aside0.mk hG2
  obtain ⟨ao1, cap1, lr1, hD1, hR1⟩ := hK1
  have hkb : (bs.take k).length = k := by rw [List.length_take]; omega
  rw [hkb] at hD1
  have HD1 := Aside0.mk hD1
  have HR1 := Aside0.mk hR1
  have hlen1 := dlen_any W1 hD1 (by omega)
  clear hlv hlen hG1 hG2 hD1 hR1 c3 hw1 hw2 hkb
  go_wp2_with (go_at_call 68; refine hlen1.mono ?_)
  rintro e W2 ⟨rfl, q, hq⟩
  have hD2 : Dc W2 b ao1 k cap1 lr1 (mn lasts k) room left := by rw [hq]; exact HD1.out
  have hG2 : W1.grownBy W2 (some b) := by rw [hq]; exact grown_below (Kb.grown0 _) (pw_below_drewN (Below.refl _ _) q)
  have d3 := hD2.c3
  have d5 := hD2.c5
  have f3 := hD2.f 3
  have f5 := hD2.f 5
  have HD2 := Aside0.mk hD2
  have HG2 := Aside0.mk hG2
  clear hq hlen1 hD2 hG2
  go_wp2
  go_end0
  have hg := grown_set (grown_set HG2.out 3 (.int .i64 k)) 5 (.int .i64 (-1))
  refine ⟨rfl, ⟨ao1, cap1, lr1, ?_, HR1.out.kept hg⟩, Lib.grownBy_trans HG.out hg⟩
  rw [show (bs.take k).length = k by rw [List.length_take]; omega]
  exact (HD2.out.s3 k).s5 (-1)
end Go.Proofs.YtbbhjceelghadaaDoor.K
end

section
-- from DiskN
namespace Go.Proofs.YtbbhjceelghadaaDoor.K
open Go Go.RowKit Go.Proofs.YtbbhjceelghadaaDoorW.PrintWords Go.Proofs.YtbbhjceelghadaaDoorW.PrintLast Go.Proofs.YtbbhjceelghadaaDoorW.PrintMore Go.Proofs.YtbbhjceelghadaaDoor.My
/-- A call fewer. -/
def dec (left : Int) : Int := if 0 < left then left - 1 else left
theorem dec_pos {left : Int} (h : 0 < left) : dec left = left - 1 := if_pos h
theorem dec_neg {left : Int} (h : ¬ 0 < left) : dec left = left := if_neg h
/-- A number of an error, and what became of the world. -/
def EQ (Q : Int → World → Prop) (e : Ending) (w' : World) : Prop := ∃ n : Int, e = .returned (.int .u16 n) ∧ Q n w'
theorem Dk.left_eq {w : World} {b : Nat} {row : Option Nat} {bs : List UInt8} {lasts room left left' : Int} (h : Dk w b row bs lasts room left) (e : left = left') : Dk w b row bs lasts room left' := e ▸ h
theorem Dk.set_left {w : World} {b : Nat} {row : Option Nat} {bs : List UInt8} {lasts room left : Int} (h : Dk w b row bs lasts room left) (x : Int) : Dk (w.setCell ⟨b, 5, none⟩ (.int .i64 x)) b row bs lasts room x := by
  obtain ⟨ao, cap, lr, hD, hR⟩ := h
  exact ⟨ao, cap, lr, hD.s5 x, hR.kept (grown_set (b := b) (Kb.grown0 w) 5 _)⟩
set_option maxHeartbeats 1600000 in
/-- No calls are left. -/
theorem dcall0 {w : World} {b : Nat} {row : Option Nat} {bs : List UInt8} {lasts room left : Int} (v : Value) (h : Dk w b row bs lasts room left) (h0 : left = 0) :
    Calls Tryd.prog 66 #[.pointer (some ⟨b, 0, none⟩), v] w fun e w' => e = .returned (.int .u16 100) ∧ w' = w := by
  subst h0
  obtain ⟨ao, cap, lr, hD, _⟩ := h
  have c5 := hD.c5
  clear hD
  go_enter Tryd.func66, Tryd.ntmps66
  go_wp2
  go_ret
  exact ⟨rfl, rfl⟩
set_option maxHeartbeats 3200000 in
theorem dcall_67 {w : World} {b : Nat} {row : Option Nat} {bs : List UInt8} {lasts room left : Int} (x y : Value) {Q : Int → World → Prop} (h : Dk w b row bs lasts room left) (h0 : left ≠ 0) (hr : left ≤ 9223372036854775807) (hdo : ∀ w1, Dk w1 b row bs lasts room (dec left) → w.grownBy w1 (some b) → Calls Tryd.prog 67 #[x, y] w1 (EQ Q)) :
    Calls Tryd.prog 66 #[.pointer (some ⟨b, 0, none⟩), .func (.func 67) #[] #[x, y]] w (EQ Q) := by
  have HK := Aside0.mk h
  obtain ⟨ao, cap, lr, hD, _⟩ := h
  have c5 := hD.c5
  have f5 := hD.f 5
  clear hD
  have hne : (left == 0) = false := by simpa using h0
  clear h0
  by_cases hp : 0 < left
  · have hdo1 := hdo _ ((HK.out.set_left (left - 1)).left_eq (dec_pos hp).symm) (grown_set (b := b) (Kb.grown0 w) 5 (.int .i64 (left - 1)))
    clear hdo
    go_enter Tryd.func66, Tryd.ntmps66
    go_wp2_with (go_at_call 67; refine hdo1.mono ?_)
    rintro e w2 ⟨n, rfl, hq⟩
    have HQ := Aside0.mk hq
    clear hq hdo1
    go_wp2
    go_ret
    exact ⟨n, rfl, HQ.out⟩
  · have hdo1 := hdo _ (HK.out.left_eq (dec_neg hp).symm) (Kb.grown0 w)
    clear hdo
    go_enter Tryd.func66, Tryd.ntmps66
    go_wp2_with (go_at_call 67; refine hdo1.mono ?_)
    rintro e w2 ⟨n, rfl, hq⟩
    have HQ := Aside0.mk hq
    clear hq hdo1
    go_wp2
    go_ret
    exact ⟨n, rfl, HQ.out⟩
set_option maxHeartbeats 3200000 in
theorem dcall_70 {w : World} {b : Nat} {row : Option Nat} {bs : List UInt8} {lasts room left : Int} (x y : Value) {Q : Int → World → Prop} (h : Dk w b row bs lasts room left) (h0 : left ≠ 0) (hr : left ≤ 9223372036854775807) (hdo : ∀ w1, Dk w1 b row bs lasts room (dec left) → w.grownBy w1 (some b) → Calls Tryd.prog 70 #[x] w1 (EQ Q)) :
    Calls Tryd.prog 66 #[.pointer (some ⟨b, 0, none⟩), .func (.func 70) #[] #[x]] w (EQ Q) := by
  have HK := Aside0.mk h
  obtain ⟨ao, cap, lr, hD, _⟩ := h
  have c5 := hD.c5
  have f5 := hD.f 5
  clear hD
  have hne : (left == 0) = false := by simpa using h0
  clear h0
  by_cases hp : 0 < left
  · have hdo1 := hdo _ ((HK.out.set_left (left - 1)).left_eq (dec_pos hp).symm) (grown_set (b := b) (Kb.grown0 w) 5 (.int .i64 (left - 1)))
    clear hdo
    go_enter Tryd.func66, Tryd.ntmps66
    go_wp2_with (go_at_call 70; refine hdo1.mono ?_)
    rintro e w2 ⟨n, rfl, hq⟩
    have HQ := Aside0.mk hq
    clear hq hdo1
    go_wp2
    go_ret
    exact ⟨n, rfl, HQ.out⟩
  · have hdo1 := hdo _ (HK.out.left_eq (dec_neg hp).symm) (Kb.grown0 w)
    clear hdo
    go_enter Tryd.func66, Tryd.ntmps66
    go_wp2_with (go_at_call 70; refine hdo1.mono ?_)
    rintro e w2 ⟨n, rfl, hq⟩
    have HQ := Aside0.mk hq
    clear hq hdo1
    go_wp2
    go_ret
    exact ⟨n, rfl, HQ.out⟩
set_option maxHeartbeats 3200000 in
theorem dcall_74 {w : World} {b : Nat} {row : Option Nat} {bs : List UInt8} {lasts room left : Int} (x y : Value) {Q : Int → World → Prop} (h : Dk w b row bs lasts room left) (h0 : left ≠ 0) (hr : left ≤ 9223372036854775807) (hdo : ∀ w1, Dk w1 b row bs lasts room (dec left) → w.grownBy w1 (some b) → Calls Tryd.prog 74 #[x, y] w1 (EQ Q)) :
    Calls Tryd.prog 66 #[.pointer (some ⟨b, 0, none⟩), .func (.func 74) #[] #[x, y]] w (EQ Q) := by
  have HK := Aside0.mk h
  obtain ⟨ao, cap, lr, hD, _⟩ := h
  have c5 := hD.c5
  have f5 := hD.f 5
  clear hD
  have hne : (left == 0) = false := by simpa using h0
  clear h0
  by_cases hp : 0 < left
  · have hdo1 := hdo _ ((HK.out.set_left (left - 1)).left_eq (dec_pos hp).symm) (grown_set (b := b) (Kb.grown0 w) 5 (.int .i64 (left - 1)))
    clear hdo
    go_enter Tryd.func66, Tryd.ntmps66
    go_wp2_with (go_at_call 74; refine hdo1.mono ?_)
    rintro e w2 ⟨n, rfl, hq⟩
    have HQ := Aside0.mk hq
    clear hq hdo1
    go_wp2
    go_ret
    exact ⟨n, rfl, HQ.out⟩
  · have hdo1 := hdo _ (HK.out.left_eq (dec_neg hp).symm) (Kb.grown0 w)
    clear hdo
    go_enter Tryd.func66, Tryd.ntmps66
    go_wp2_with (go_at_call 74; refine hdo1.mono ?_)
    rintro e w2 ⟨n, rfl, hq⟩
    have HQ := Aside0.mk hq
    clear hq hdo1
    go_wp2
    go_ret
    exact ⟨n, rfl, HQ.out⟩
end Go.Proofs.YtbbhjceelghadaaDoor.K
end

section
-- from DiskO
namespace Go.Proofs.YtbbhjceelghadaaDoor.K
open Go Go.RowKit Go.Proofs.YtbbhjceelghadaaDoorW.PrintWords Go.Proofs.YtbbhjceelghadaaDoorW.PrintLast Go.Proofs.YtbbhjceelghadaaDoorW.PrintMore Go.Proofs.YtbbhjceelghadaaDoor.My
/-- What an append does to the bytes. -/
def apB (bs l : List UInt8) (room : Int) : List UInt8 := if room - bs.length < l.length then bs else bs ++ l
def apE (bs l : List UInt8) (room : Int) : Int := if room - bs.length < l.length then 100 else 0
/-- A disk behind a call: its row is the old one or a new one; all else stays. -/
def DQ (w : World) (b : Nat) (row : Option Nat) (n : Int) (bs : List UInt8) (lasts room left : Int) (m : Int) (w' : World) : Prop :=
  m = n ∧ ∃ row', Dk w' b row' bs lasts room left ∧ Nw w row row' ∧ Kb b row w w'
theorem DQ.old {w w1 w' : World} {b : Nat} {row : Option Nat} {n : Int} {bs : List UInt8} {lasts room left m : Int} (h : DQ w1 b row n bs lasts room left m w') (hk : Kb b row w w1) : DQ w b row n bs lasts room left m w' := by
  obtain ⟨e, row', h1, h2, h3⟩ := h
  have hn : Nw w row row := fun k e => .inl e
  exact ⟨e, row', h1, fun k e => (h2 k e).imp id (fun h => Nat.le_trans hk.size h), hk.trans hn h3⟩
theorem Kb.of_below {b : Nat} {row : Option Nat} {w w' : World} (h : Below w.heap.size w w') : Kb b row w w' :=
  ⟨h.os, h.tape, h.output, h.size, fun k hk _ _ => h.block k hk⟩
theorem Rw.below {w w' : World} {b : Nat} {ao : Option Addr} {row : Option Nat} {cap : Nat} {bs : List UInt8} (h : Rw w b ao row cap bs) (hb : Below w.heap.size w w') : Rw w' b ao row cap bs := by
  rcases h with h | ⟨g, cur, h1, h2, h3, h4, h5⟩
  · exact .inl h
  · exact .inr ⟨g, cur, h1, h2, h3, (hb.block g (blk_lt h4)).trans h4, h5⟩
theorem Dk.below {w w' : World} {b : Nat} {row : Option Nat} {bs : List UInt8} {lasts room left : Int} (h : Dk w b row bs lasts room left) (hb : Below w.heap.size w w') : Dk w' b row bs lasts room left := by
  obtain ⟨ao, cap, lr, hD, hR⟩ := h
  exact ⟨ao, cap, lr, hD.below hb, hR.below hb⟩
theorem Dk.lt {w : World} {b : Nat} {row : Option Nat} {bs : List UInt8} {lasts room left : Int} (h : Dk w b row bs lasts room left) : b < w.heap.size := by
  obtain ⟨ao, cap, lr, hD, hR⟩ := h
  exact hD.lt
set_option maxHeartbeats 3200000 in
/-- Append's literal. -/
theorem dapp_lit {w : World} {b x y : Nat} {row : Option Nat} {bs l : List UInt8} {lasts room left : Int} {A : Option Addr} {c : Nat} (h : Dk w b row bs lasts room left) (hx : w.cell? ⟨x, 0, none⟩ = some (.slice A l.length c)) (hy : w.cell? ⟨y, 0, none⟩ = some (.pointer (some ⟨b, 0, none⟩)))
    (hC : kb.C w A l.length l) (hab : ∀ a, A = some a → 0 < l.length → a.block ≠ b) (hbs : (bs.length : Int) ≤ room) (hroom : room ≤ 1048576) (hl : l.length ≤ 140737480000000) :
    Calls Tryd.prog 67 #[.pointer (some ⟨x, 0, none⟩), .pointer (some ⟨y, 0, none⟩)] w (EQ (DQ w b row (apE bs l room) (apB bs l room) lasts room left)) := by
  have mixed : Tryd.prog.follows Departure.mixedOrders = true := by kernel_rfl
  have hwr := fun n => dwrite_any (w := w.drewN n) (c := c) (kept_drewN h n) hC hab (by omega)
  have HK := Aside0.mk h
  obtain ⟨ao, cap, lr, hD, hR⟩ := h
  have c4 := hD.c4
  have hlen := fun n => dlen_any (w.drewN n) (show Dc (w.drewN n) b ao bs.length cap lr lasts room left from hD) (by omega)
  have hw1 : IntKind.i64.wrap (room - (bs.length : Int)) = room - bs.length := by rw [IntKind.wrap_i64]; omega
  clear hD hR
  by_cases hp : room - (bs.length : Int) < l.length
  · have hE : apE bs l room = 100 := if_pos hp
    have hB : apB bs l room = bs := if_pos hp
    rw [hE, hB]
    clear hwr hE hB
    go_enter Tryd.func67, Tryd.ntmps67
    go_wp2
    go_quiet ((go_at_call 68; exact Calls.quiet_of (hlen _)))
    go_wp2
    go_ret
    exact ⟨100, rfl, rfl, row, kept_drewN HK.out _, fun k e => .inl e, Kb.of_below (pw_below_drewN (Below.refl _ _) _)⟩
  · have hE : apE bs l room = 0 := if_neg hp
    have hB : apB bs l room = bs ++ l := if_neg hp
    rw [hE, hB]
    clear hE hB
    go_enter Tryd.func67, Tryd.ntmps67
    go_wp2
    go_quiet ((go_at_call 68; exact Calls.quiet_of (hlen _)))
    go_wp2
    go_region_with_o (
      go_at_call 69
      refine (hwr _).mono ?_
      rintro e w1 ⟨rfl, hq⟩)
    all_goals (
      go_wp2
      go_ret
      obtain ⟨row', h1, h2, h3⟩ := hq
      exact ⟨0, rfl, rfl, row', h1, h2, (Kb.of_below (pw_below_drewN (Below.refl _ _) _)).trans (fun k e => .inl e) h3⟩)
theorem C_grown {w w1 : World} {b : Nat} {A : Option Addr} {n : Nat} {l : List UInt8} (h : kb.C w A n l) (hg : w.grownBy w1 (some b)) (hab : ∀ a, A = some a → 0 < l.length → a.block ≠ b) : kb.C w1 A n l :=
  Kd.C_keep (0 : UInt8) h ⟨hg.size, fun i hi hne _ => hg.block i hi (fun e => hne (Option.some.inj e))⟩ (fun a e hn => hab a e (by rw [h.1]; exact hn))
theorem cell_grown {w w1 : World} {b : Nat} {x : Nat} {v : Value} (h : w.cell? ⟨x, 0, none⟩ = some v) (hg : w.grownBy w1 (some b)) (hx : x ≠ b) : w1.cell? ⟨x, 0, none⟩ = some v :=
  hg.cell h (fun e => hx (Option.some.inj e))
set_option maxHeartbeats 3200000 in
/-- Disk.Append. -/
theorem dappend_any {w : World} {b : Nat} {row : Option Nat} {bs l : List UInt8} {lasts room left : Int} {A : Option Addr} {c : Nat} (h : Dk w b row bs lasts room left)
    (hC : kb.C w A l.length l) (hab : ∀ a, A = some a → 0 < l.length → a.block ≠ b) (hbs : (bs.length : Int) ≤ room) (hroom : room ≤ 1048576) (hl : l.length ≤ 140737480000000) (hlf : left ≤ 9223372036854775807) :
    Calls Tryd.prog 26 #[.pointer (some ⟨b, 0, none⟩), .slice A l.length c] w (EQ (DQ w b row (if left = 0 then 100 else apE bs l room) (if left = 0 then bs else apB bs l room) lasts room (dec left))) := by
  generalize hE : (if left = 0 then 100 else apE bs l room) = E
  generalize hB : (if left = 0 then bs else apB bs l room) = B
  have hbel : Below w.heap.size w ((w.alloc (.cells #[.pointer (some ⟨b, 0, none⟩)] 25)).alloc (.cells #[.slice A l.length c] 23)) := ((Below.refl _ _).alloc (Nat.le_refl _) _).alloc (by simp) _
  have hK := h.below hbel
  have hC1 := Kd.C_below hC hbel
  have hy : ((w.alloc (.cells #[.pointer (some ⟨b, 0, none⟩)] 25)).alloc (.cells #[.slice A l.length c] 23)).cell? ⟨w.heap.size, 0, none⟩ = some (.pointer (some ⟨b, 0, none⟩)) := by go_simp
  have hx : ((w.alloc (.cells #[.pointer (some ⟨b, 0, none⟩)] 25)).alloc (.cells #[.slice A l.length c] 23)).cell? ⟨w.heap.size + 1, 0, none⟩ = some (.slice A l.length c) := by go_simp
  have hlt := h.lt
  have HB := Aside0.mk hbel
  obtain ⟨W, hW⟩ : ∃ W, W = (w.alloc (.cells #[.pointer (some ⟨b, 0, none⟩)] 25)).alloc (.cells #[.slice A l.length c] 23) := ⟨_, rfl⟩
  have key : Calls Tryd.prog 66 #[.pointer (some ⟨b, 0, none⟩), .func (.func 67) #[] #[.pointer (some ⟨w.heap.size + 1, 0, none⟩), .pointer (some ⟨w.heap.size, 0, none⟩)]] W (EQ (DQ w b row E B lasts room (dec left))) := by
    rw [← hE, ← hB]
    rw [← hW] at hK hC1 hx hy hbel
    by_cases h0 : left = 0
    · refine (dcall0 _ hK h0).mono ?_
      rintro e w' ⟨rfl, rfl⟩
      exact ⟨100, rfl, by rw [if_pos h0], row, by rw [if_pos h0, h0, show dec 0 = 0 from rfl]; rwa [h0] at hK, fun k e => .inl e, Kb.of_below hbel⟩
    · refine dcall_67 _ _ hK h0 hlf (fun w1 hk1 hg1 => ?_)
      have h1 := dapp_lit (x := w.heap.size + 1) (y := w.heap.size) (c := c) hk1 (cell_grown hx hg1 (by omega)) (cell_grown hy hg1 (by omega)) (C_grown hC1 hg1 hab) hab hbs hroom hl
      refine h1.mono ?_
      rintro e w' ⟨n, rfl, hq⟩
      refine ⟨n, rfl, ?_⟩
      rw [if_neg h0, if_neg h0]
      exact hq.old ((Kb.of_below hbel).trans (fun k e => .inl e) (Kb.of_grown hg1))
  rw [hW] at key
  clear hK hC1 hC hbel h hW hx hy hE hB hl hlf hroom hbs hlt hab
  go_enter Tryd.func26, Tryd.ntmps26
  go_wp2_with (go_at_call 66; refine key.mono ?_)
  rintro e w2 ⟨n, rfl, hq⟩
  have HQ := Aside0.mk hq
  clear hq key
  go_wp2
  go_ret
  exact ⟨n, rfl, HQ.out⟩
set_option maxHeartbeats 3200000 in
/-- Sync's literal. -/
theorem dsync_lit {w : World} {b x : Nat} {row : Option Nat} {bs : List UInt8} {lasts room left : Int} (h : Dk w b row bs lasts room left) (hx : w.cell? ⟨x, 0, none⟩ = some (.pointer (some ⟨b, 0, none⟩))) (hbs : bs.length ≤ 1048576) (hxb : x ≠ b) :
    Calls Tryd.prog 70 #[.pointer (some ⟨x, 0, none⟩)] w (EQ (DQ w b row 0 bs bs.length room left)) := by
  have mixed : Tryd.prog.follows Departure.mixedOrders = true := by kernel_rfl
  have HK := Aside0.mk h
  obtain ⟨ao, cap, lr, hD, hR⟩ := h
  have HD := Aside0.mk hD
  have HR := Aside0.mk hR
  have f3 := hD.f 3
  have hlen := fun n => dlen_any (w.drewN n) (show Dc (w.drewN n) b ao bs.length cap lr lasts room left from hD) (by omega)
  clear hD hR
  go_enter Tryd.func70, Tryd.ntmps70
  go_wp2
  go_region_with_o (
    go_at_call 68
    refine (dlen_any (b := b) (l := bs.length) (ao := ao) (cap := cap) (lr := lr) (lasts := lasts) (room := room) (left := left) _ ?_ (by omega)).mono ?_
    exact HD.out
    rintro e w1 ⟨rfl, q, hq⟩
    have hD2 : Dc w1 b ao bs.length cap lr lasts room left := by rw [hq]; exact HD.out
    have hG2 : w.grownBy w1 (some b) := by rw [hq]; exact grown_below (w1 := w.drew) (by exact ⟨rfl, rfl, rfl, Nat.le_refl _, fun _ _ _ => rfl⟩) (pw_below_drewN (Below.refl _ _) _)
    have hx2 := cell_grown hx hG2 hxb
    have d3 := hD2.c3
    have e3 := hD2.f 3
    have HD2 := Aside0.mk hD2
    have HG2 := Aside0.mk hG2
    clear hq hD2 hG2)
  all_goals (
    go_wp2
    go_ret
    exact ⟨0, rfl, rfl, row, ⟨ao, cap, lr, HD2.out.s3 _, HR.out.kept (grown_set (b := b) HG2.out 3 _)⟩, fun k e => .inl e, Kb.of_grown (grown_set HG2.out 3 _)⟩)
set_option maxHeartbeats 3200000 in
/-- Disk.Sync. -/
theorem dsync_any {w : World} {b : Nat} {row : Option Nat} {bs : List UInt8} {lasts room left : Int} (h : Dk w b row bs lasts room left) (hbs : bs.length ≤ 1048576) (hlf : left ≤ 9223372036854775807) :
    Calls Tryd.prog 27 #[.pointer (some ⟨b, 0, none⟩)] w (EQ (DQ w b row (if left = 0 then 100 else 0) bs (if left = 0 then lasts else bs.length) room (dec left))) := by
  generalize hE : (if left = 0 then 100 else 0 : Int) = E
  generalize hB : (if left = 0 then lasts else (bs.length : Int)) = B
  have hbel : Below w.heap.size w (w.alloc (.cells #[.pointer (some ⟨b, 0, none⟩)] 25)) := (Below.refl _ _).alloc (Nat.le_refl _) _
  have hK := h.below hbel
  have hy : (w.alloc (.cells #[.pointer (some ⟨b, 0, none⟩)] 25)).cell? ⟨w.heap.size, 0, none⟩ = some (.pointer (some ⟨b, 0, none⟩)) := by go_simp
  have hlt := h.lt
  have HB := Aside0.mk hbel
  obtain ⟨W, hW⟩ : ∃ W, W = w.alloc (.cells #[.pointer (some ⟨b, 0, none⟩)] 25) := ⟨_, rfl⟩
  have key : Calls Tryd.prog 66 #[.pointer (some ⟨b, 0, none⟩), .func (.func 70) #[] #[.pointer (some ⟨w.heap.size, 0, none⟩)]] W (EQ (DQ w b row E bs B room (dec left))) := by
    rw [← hE, ← hB]
    rw [← hW] at hK hy hbel
    by_cases h0 : left = 0
    · refine (dcall0 _ hK h0).mono ?_
      rintro e w' ⟨rfl, rfl⟩
      exact ⟨100, rfl, by rw [if_pos h0], row, by rw [if_pos h0, h0, show dec 0 = 0 from rfl]; rwa [h0] at hK, fun k e => .inl e, Kb.of_below hbel⟩
    · refine dcall_70 _ (.bool true) hK h0 hlf (fun w1 hk1 hg1 => ?_)
      have h1 := dsync_lit (x := w.heap.size) hk1 (cell_grown hy hg1 (by omega)) hbs (by omega)
      refine h1.mono ?_
      rintro e w' ⟨n, rfl, hq⟩
      refine ⟨n, rfl, ?_⟩
      rw [if_neg h0, if_neg h0]
      exact hq.old ((Kb.of_below hbel).trans (fun k e => .inl e) (Kb.of_grown hg1))
  rw [hW] at key
  clear hK hbel h hW hy hE hB hlf hbs hlt
  go_enter Tryd.func27, Tryd.ntmps27
  go_wp2_with (go_at_call 66; refine key.mono ?_)
  rintro e w2 ⟨n, rfl, hq⟩
  have HQ := Aside0.mk hq
  clear hq key
  go_wp2
  go_ret
  exact ⟨n, rfl, HQ.out⟩
end Go.Proofs.YtbbhjceelghadaaDoor.K
end

section
-- from DiskQ
namespace Go.Proofs.YtbbhjceelghadaaDoor.K
open Go Go.RowKit Go.Proofs.YtbbhjceelghadaaDoorW.PrintWords Go.Proofs.YtbbhjceelghadaaDoorW.PrintLast Go.Proofs.YtbbhjceelghadaaDoorW.PrintMore Go.Proofs.YtbbhjceelghadaaDoor.My
/-- What a cut leaves. -/
def ctB (bs : List UInt8) (n : Int) : List UInt8 := if n < 0 ∨ (bs.length : Int) < n then bs else bs.take n.toNat
def ctE (bs : List UInt8) (n : Int) : Int := if n < 0 ∨ (bs.length : Int) < n then 1 else 0
def ctL (bs : List UInt8) (lasts n : Int) : Int := if n < 0 ∨ (bs.length : Int) < n then lasts else mn lasts n
set_option maxHeartbeats 3200000 in
/-- Cut's literal. -/
theorem dcut_lit {w : World} {b x y : Nat} {row : Option Nat} {bs : List UInt8} {lasts room left : Int} (n : Int) (h : Dk w b row bs lasts room left) (hx : w.cell? ⟨x, 0, none⟩ = some (.int .i64 n)) (hy : w.cell? ⟨y, 0, none⟩ = some (.pointer (some ⟨b, 0, none⟩))) (hbs : bs.length ≤ 1048576) :
    Calls Tryd.prog 74 #[.pointer (some ⟨x, 0, none⟩), .pointer (some ⟨y, 0, none⟩)] w (EQ (DQ w b row (ctE bs n) (ctB bs n) (ctL bs lasts n) room left)) := by
  have mixed : Tryd.prog.follows Departure.mixedOrders = true := by kernel_rfl
  have HK := Aside0.mk h
  obtain ⟨ao, cap, lr, hD, hR⟩ := h
  have hlen := fun n => dlen_any (w.drewN n) (show Dc (w.drewN n) b ao bs.length cap lr lasts room left from hD) (by omega)
  clear hD hR
  by_cases hn : n < 0
  · have hE : ctE bs n = 1 := if_pos (.inl hn)
    have hB : ctB bs n = bs := if_pos (.inl hn)
    have hL : ctL bs lasts n = lasts := if_pos (.inl hn)
    rw [hE, hB, hL]
    clear hE hB hL
    go_enter Tryd.func74, Tryd.ntmps74
    go_wp2
    go_quiet (fail)
    go_wp2
    go_ret
    exact ⟨1, rfl, rfl, row, kept_drewN HK.out _, fun k e => .inl e, Kb.of_below (pw_below_drewN (Below.refl _ _) _)⟩
  · obtain ⟨m, rfl⟩ : ∃ m : Nat, n = m := ⟨n.toNat, by omega⟩
    by_cases hm : (bs.length : Int) < m
    · have hE : ctE bs m = 1 := if_pos (.inr hm)
      have hB : ctB bs m = bs := if_pos (.inr hm)
      have hL : ctL bs lasts m = lasts := if_pos (.inr hm)
      rw [hE, hB, hL]
      clear hE hB hL
      have hd : decide ((m : Int) < 0) = false := by simp
      go_enter Tryd.func74, Tryd.ntmps74
      go_wp2
      go_quiet ((go_at_call 68; exact Calls.quiet_of (hlen _)))
      go_wp2
      go_ret
      exact ⟨1, rfl, rfl, row, kept_drewN HK.out _, fun k e => .inl e, Kb.of_below (pw_below_drewN (Below.refl _ _) _)⟩
    · have hor : ¬ ((m : Int) < 0 ∨ (bs.length : Int) < m) := by omega
      have hE : ctE bs m = 0 := if_neg hor
      have hB : ctB bs m = bs.take m := (if_neg hor).trans (by rw [Int.toNat_natCast])
      have hL : ctL bs lasts m = mn lasts m := if_neg hor
      rw [hE, hB, hL]
      clear hE hB hL hor
      have hd : decide ((m : Int) < 0) = false := by simp
      have hlv := fun k => dleave_any (w := w.drewN k) (n := m) (kept_drewN HK.out k) (by omega) (by omega)
      go_enter Tryd.func74, Tryd.ntmps74
      go_wp2
      go_quiet ((go_at_call 68; exact Calls.quiet_of (hlen _)))
      go_wp2_with (go_at_call 71; refine (hlv _).mono ?_)
      rintro e w1 ⟨rfl, h1, h2⟩
      have H1 := Aside0.mk h1
      have H2 := Aside0.mk h2
      clear h1 h2 hlv hlen
      go_wp2
      go_ret
      exact ⟨0, rfl, rfl, row, H1.out, fun k e => .inl e, (Kb.of_below (pw_below_drewN (Below.refl _ _) _)).trans (fun k e => .inl e) (Kb.of_grown H2.out)⟩
set_option maxHeartbeats 3200000 in
/-- Disk.Cut. -/
theorem dcut_any {w : World} {b : Nat} {row : Option Nat} {bs : List UInt8} {lasts room left : Int} (n : Int) (h : Dk w b row bs lasts room left) (hbs : bs.length ≤ 1048576) (hlf : left ≤ 9223372036854775807) :
    Calls Tryd.prog 33 #[.pointer (some ⟨b, 0, none⟩), .int .i64 n] w (EQ (DQ w b row (if left = 0 then 100 else ctE bs n) (if left = 0 then bs else ctB bs n) (if left = 0 then lasts else ctL bs lasts n) room (dec left))) := by
  generalize hE : (if left = 0 then 100 else ctE bs n) = E
  generalize hB : (if left = 0 then bs else ctB bs n) = B
  generalize hL : (if left = 0 then lasts else ctL bs lasts n) = L
  have hbel : Below w.heap.size w ((w.alloc (.cells #[.pointer (some ⟨b, 0, none⟩)] 25)).alloc (.cells #[.int .i64 n] 3)) := ((Below.refl _ _).alloc (Nat.le_refl _) _).alloc (by simp) _
  have hK := h.below hbel
  have hy : ((w.alloc (.cells #[.pointer (some ⟨b, 0, none⟩)] 25)).alloc (.cells #[.int .i64 n] 3)).cell? ⟨w.heap.size, 0, none⟩ = some (.pointer (some ⟨b, 0, none⟩)) := by go_simp
  have hx : ((w.alloc (.cells #[.pointer (some ⟨b, 0, none⟩)] 25)).alloc (.cells #[.int .i64 n] 3)).cell? ⟨w.heap.size + 1, 0, none⟩ = some (.int .i64 n) := by go_simp
  have hlt := h.lt
  have HB := Aside0.mk hbel
  obtain ⟨W, hW⟩ : ∃ W, W = (w.alloc (.cells #[.pointer (some ⟨b, 0, none⟩)] 25)).alloc (.cells #[.int .i64 n] 3) := ⟨_, rfl⟩
  have key : Calls Tryd.prog 66 #[.pointer (some ⟨b, 0, none⟩), .func (.func 74) #[] #[.pointer (some ⟨w.heap.size + 1, 0, none⟩), .pointer (some ⟨w.heap.size, 0, none⟩)]] W (EQ (DQ w b row E B L room (dec left))) := by
    rw [← hE, ← hB, ← hL]
    rw [← hW] at hK hx hy hbel
    by_cases h0 : left = 0
    · refine (dcall0 _ hK h0).mono ?_
      rintro e w' ⟨rfl, rfl⟩
      exact ⟨100, rfl, by rw [if_pos h0], row, by rw [if_pos h0, if_pos h0, h0, show dec 0 = 0 from rfl]; rwa [h0] at hK, fun k e => .inl e, Kb.of_below hbel⟩
    · refine dcall_74 _ _ hK h0 hlf (fun w1 hk1 hg1 => ?_)
      have h1 := dcut_lit (x := w.heap.size + 1) (y := w.heap.size) n hk1 (cell_grown hx hg1 (by omega)) (cell_grown hy hg1 (by omega)) hbs
      refine h1.mono ?_
      rintro e w' ⟨n, rfl, hq⟩
      refine ⟨n, rfl, ?_⟩
      rw [if_neg h0, if_neg h0, if_neg h0]
      exact hq.old ((Kb.of_below hbel).trans (fun k e => .inl e) (Kb.of_grown hg1))
  rw [hW] at key
  clear hK hbel h hW hx hy hE hB hL hlf hbs hlt
  go_enter Tryd.func33, Tryd.ntmps33
  go_wp2_with (go_at_call 66; refine key.mono ?_)
  rintro e w2 ⟨n, rfl, hq⟩
  have HQ := Aside0.mk hq
  clear hq key
  go_wp2
  go_ret
  exact ⟨n, rfl, HQ.out⟩
set_option maxHeartbeats 1600000 in
/-- disk.New: none. -/
theorem dnew_none (room : Int) (w : World) (h : room < 0 ∨ 1048576 < room) : Calls Tryd.prog 25 #[.int .i64 room] w fun e w' => e = .returned (.pointer none) ∧ ∃ k, w' = w.drewN k := by
  rcases h with h | h
  · go_enter Tryd.func25, Tryd.ntmps25
    go_wp2
    go_ret
    exact ⟨rfl, 0, rfl⟩
  · have hd : ¬ room < 0 := by omega
    go_enter Tryd.func25, Tryd.ntmps25
    go_wp2
    go_ret
    exact ⟨rfl, 0, rfl⟩
set_option maxHeartbeats 1600000 in
/-- disk.New: an empty one. -/
theorem dnew_some (room : Int) (w : World) (h0 : 0 ≤ room) (h1 : room ≤ 1048576) : Calls Tryd.prog 25 #[.int .i64 room] w fun e w' => e = .returned (.pointer (some ⟨w.heap.size, 0, none⟩)) ∧ Dk w' w.heap.size none [] 0 room (-1) ∧ Below w.heap.size w w' := by
  go_enter Tryd.func25, Tryd.ntmps25
  go_wp2
  go_ret
  exact ⟨rfl, ⟨none, 0, 0, heap_new' rfl, .inl ⟨rfl, rfl, rfl, rfl⟩⟩, (Below.refl _ _).alloc (Nat.le_refl _) _⟩
end Go.Proofs.YtbbhjceelghadaaDoor.K
end

section
-- from DiskR
namespace Go.Proofs.YtbbhjceelghadaaDoor.K
open Go Go.RowKit Go.Proofs.YtbbhjceelghadaaDoorW.PrintWords Go.Proofs.YtbbhjceelghadaaDoorW.PrintLast Go.Proofs.YtbbhjceelghadaaDoorW.PrintMore Go.Proofs.YtbbhjceelghadaaDoor.My
/-- The document's disk: its cells. -/
def Rc (w : World) (b : Nat) (ao : Option Addr) (l cap : Nat) (lasts room left : Int) : Prop :=
  w.heap[b]? = some (.cells #[.slice ao l cap, .int .i64 lasts, .int .i64 room, .int .i64 left] 46 (0, 0))
section
variable {w : World} {b : Nat} {ao : Option Addr} {l cap : Nat} {lasts room left : Int}
theorem Rc.c0 (h : Rc w b ao l cap lasts room left) : w.cell? ⟨b, 0, none⟩ = some (.slice ao l cap) := (blk_cell h 0).trans rfl
theorem Rc.c1 (h : Rc w b ao l cap lasts room left) : w.cell? ⟨b, 1, none⟩ = some (.int .i64 lasts) := (blk_cell h 1).trans rfl
theorem Rc.c2 (h : Rc w b ao l cap lasts room left) : w.cell? ⟨b, 2, none⟩ = some (.int .i64 room) := (blk_cell h 2).trans rfl
theorem Rc.c3 (h : Rc w b ao l cap lasts room left) : w.cell? ⟨b, 3, none⟩ = some (.int .i64 left) := (blk_cell h 3).trans rfl
theorem Rc.f (h : Rc w b ao l cap lasts room left) (i : Nat) : w.frozen? ⟨b, i, none⟩ = false := blk_frozen h i
theorem Rc.lt (h : Rc w b ao l cap lasts room left) : b < w.heap.size := blk_lt h
theorem Rc.below {w' : World} (h : Rc w b ao l cap lasts room left) (hb : Below w.heap.size w w') : Rc w' b ao l cap lasts room left := heap_below hb h
theorem Rc.s0 (h : Rc w b ao l cap lasts room left) (ao' : Option Addr) (l' cap' : Nat) : Rc (w.setCell ⟨b, 0, none⟩ (.slice ao' l' cap')) b ao' l' cap' lasts room left := blk_put h 0 _ rfl
theorem Rc.s1 (h : Rc w b ao l cap lasts room left) (x : Int) : Rc (w.setCell ⟨b, 1, none⟩ (.int .i64 x)) b ao l cap x room left := blk_put h 1 _ rfl
theorem Rc.s3 (h : Rc w b ao l cap lasts room left) (x : Int) : Rc (w.setCell ⟨b, 3, none⟩ (.int .i64 x)) b ao l cap lasts room x := blk_put h 3 _ rfl
end
def Rk (w : World) (b : Nat) (row : Option Nat) (bs : List UInt8) (lasts room left : Int) : Prop :=
  ∃ ao cap, Rc w b ao bs.length cap lasts room left ∧ Rw w b ao row cap bs
theorem Rw.own {w : World} {b : Nat} {ao : Option Addr} {row : Option Nat} {cap : Nat} {bs : List UInt8} (h : Rw w b ao row cap bs) : kb.R 5 w 0 (fun _ => True) (.slice ao bs.length cap) bs ∧ (Value.slice ao bs.length cap).ownBlock = row := by
  rcases h with ⟨rfl, rfl, rfl, rfl⟩ | ⟨g, cur, rfl, rfl, h3, h4, h5, h6, h7, h8⟩
  · exact ⟨Kd.R_nil _ _ _ _ _, rfl⟩
  · refine ⟨Kd.R_of_own ?_ (fun _ _ => trivial), rfl⟩
    refine ⟨by simp [encs, Lib.byteCells], .inr ⟨g, cap, cur, rfl, Nat.zero_le _, h4, h5, h6, by rw [h7]; show cap = cap * 1; omega, ?_⟩⟩
    show cur.toList.take (bs.length * 1) = _
    rw [Nat.mul_one, h8]
    simp [encs, Lib.byteCells]
theorem Rk.below {w w' : World} {b : Nat} {row : Option Nat} {bs : List UInt8} {lasts room left : Int} (h : Rk w b row bs lasts room left) (hb : Below w.heap.size w w') : Rk w' b row bs lasts room left := by
  obtain ⟨ao, cap, hD, hR⟩ := h
  exact ⟨ao, cap, hD.below hb, hR.below hb⟩
theorem Rk.lt {w : World} {b : Nat} {row : Option Nat} {bs : List UInt8} {lasts room left : Int} (h : Rk w b row bs lasts room left) : b < w.heap.size := by
  obtain ⟨ao, cap, hD, hR⟩ := h
  exact hD.lt
theorem Rk.set_left {w : World} {b : Nat} {row : Option Nat} {bs : List UInt8} {lasts room left : Int} (h : Rk w b row bs lasts room left) (x : Int) : Rk (w.setCell ⟨b, 3, none⟩ (.int .i64 x)) b row bs lasts room x := by
  obtain ⟨ao, cap, hD, hR⟩ := h
  exact ⟨ao, cap, hD.s3 x, hR.kept (grown_set (b := b) (Kb.grown0 w) 3 _)⟩
theorem Rk.left_eq {w : World} {b : Nat} {row : Option Nat} {bs : List UInt8} {lasts room left left' : Int} (h : Rk w b row bs lasts room left) (e : left = left') : Rk w b row bs lasts room left' := e ▸ h
theorem Rk.drewN {b : Nat} {row : Option Nat} {w : World} {bs : List UInt8} {lasts room left : Int} (h : Rk w b row bs lasts room left) (n : Nat) : Rk (w.drewN n) b row bs lasts room left := h
attribute [local go_sem] max2_mx min2_mn max_two min_two
end Go.Proofs.YtbbhjceelghadaaDoor.K
end

section
-- from DiskM
namespace Go.Proofs.YtbbhjceelghadaaDoor.K
open Go Go.RowKit Go.Proofs.YtbbhjceelghadaaDoorW.PrintWords Go.Proofs.YtbbhjceelghadaaDoorW.PrintLast Go.Proofs.YtbbhjceelghadaaDoorW.PrintMore Go.Proofs.YtbbhjceelghadaaDoor.My
/-- A disk: its bytes, how many last, its room, the calls left (below 0: no count). -/
structure DM where
  bs : List UInt8
  lasts : Nat
  room : Nat
  left : Int
structure DM.ok (d : DM) : Prop where
  fit : d.bs.length ≤ d.room
  las : d.lasts ≤ d.bs.length
  room : d.room ≤ 1048576
  lef : d.left ≤ 9223372036854775807
def DM.new (room : Nat) : DM := ⟨[], 0, room, -1⟩
def DM.full (d : DM) (l : List UInt8) : Prop := (d.room : Int) - d.bs.length < l.length
instance (d : DM) (l : List UInt8) : Decidable (d.full l) := by unfold DM.full; infer_instance
def DM.app (d : DM) (l : List UInt8) : DM := if d.left = 0 then d else if d.full l then { d with left := dec d.left } else { d with bs := d.bs ++ l, left := dec d.left }
def DM.appE (d : DM) (l : List UInt8) : Int := if d.left = 0 then 100 else if d.full l then 100 else 0
def DM.sync (d : DM) : DM := if d.left = 0 then d else { d with lasts := d.bs.length, left := dec d.left }
def DM.syncE (d : DM) : Int := if d.left = 0 then 100 else 0
def DM.out (d : DM) (n : Int) : Prop := n < 0 ∨ (d.bs.length : Int) < n
instance (d : DM) (n : Int) : Decidable (d.out n) := by unfold DM.out; infer_instance
def DM.cut (d : DM) (n : Int) : DM := if d.left = 0 then d else if d.out n then { d with left := dec d.left } else { d with bs := d.bs.take n.toNat, lasts := min d.lasts n.toNat, left := dec d.left }
def DM.cutE (d : DM) (n : Int) : Int := if d.left = 0 then 100 else if d.out n then 1 else 0
def DM.kept (d : DM) (keep : Int) : Nat := d.lasts + min keep.toNat (d.bs.length - d.lasts)
def DM.crash (d : DM) (keep : Int) : DM := { d with bs := d.bs.take (d.kept keep), lasts := d.kept keep, left := -1 }
theorem dec_le {x : Int} (h : x ≤ 9223372036854775807) : dec x ≤ 9223372036854775807 := by unfold dec; split <;> omega
theorem DM.new_ok {room : Nat} (h : room ≤ 1048576) : (DM.new room).ok := ⟨Nat.zero_le _, Nat.zero_le _, h, by show (-1 : Int) ≤ _; omega⟩
theorem DM.app_ok {d : DM} (h : d.ok) (l : List UInt8) : (d.app l).ok := by
  unfold DM.app
  split
  · exact h
  · split
    · exact ⟨h.fit, h.las, h.room, dec_le h.lef⟩
    · rename_i h1
      unfold DM.full at h1
      refine ⟨?_, ?_, h.room, dec_le h.lef⟩
      · show (d.bs ++ l).length ≤ d.room
        rw [List.length_append]
        omega
      · show d.lasts ≤ (d.bs ++ l).length
        have := h.las
        rw [List.length_append]
        omega
theorem DM.sync_ok {d : DM} (h : d.ok) : d.sync.ok := by
  unfold DM.sync
  split
  · exact h
  · exact ⟨h.fit, Nat.le_refl _, h.room, dec_le h.lef⟩
theorem DM.cut_ok {d : DM} (h : d.ok) (n : Int) : (d.cut n).ok := by
  unfold DM.cut
  split
  · exact h
  · split
    · exact ⟨h.fit, h.las, h.room, dec_le h.lef⟩
    · have h1 := h.fit
      have h2 := h.las
      refine ⟨?_, ?_, h.room, dec_le h.lef⟩
      · show (d.bs.take n.toNat).length ≤ d.room
        rw [List.length_take]
        omega
      · show min d.lasts n.toNat ≤ (d.bs.take n.toNat).length
        rw [List.length_take]
        omega
theorem DM.kept_le {d : DM} (h : d.ok) (keep : Int) : d.kept keep ≤ d.bs.length := by
  have := h.las
  unfold DM.kept
  omega
theorem DM.crash_ok {d : DM} (h : d.ok) (keep : Int) : (d.crash keep).ok := by
  have h1 := h.fit
  have h2 := DM.kept_le h keep
  refine ⟨?_, ?_, h.room, by show (-1 : Int) ≤ _; omega⟩
  · show (d.bs.take (d.kept keep)).length ≤ d.room
    rw [List.length_take]
    omega
  · show d.kept keep ≤ (d.bs.take (d.kept keep)).length
    rw [List.length_take]
    omega
/-- The program's disk, the document's. -/
def DD (w : World) (b : Nat) (row : Option Nat) (d : DM) : Prop := Dk w b row d.bs d.lasts d.room d.left ∧ d.ok
def RR (w : World) (b : Nat) (row : Option Nat) (d : DM) : Prop := Rk w b row d.bs d.lasts d.room d.left ∧ d.ok
/-- Behind a call. -/
def DP (v : Value) (w : World) (b : Nat) (row : Option Nat) (d : DM) (e : Ending) (w' : World) : Prop := e = .returned v ∧ ∃ row', DD w' b row' d ∧ Nw w row row' ∧ Kb b row w w'
theorem DD.below {w w' : World} {b : Nat} {row : Option Nat} {d : DM} (h : DD w b row d) (hb : Below w.heap.size w w') : DD w' b row d := ⟨h.1.below hb, h.2⟩
theorem RR.below {w w' : World} {b : Nat} {row : Option Nat} {d : DM} (h : RR w b row d) (hb : Below w.heap.size w w') : RR w' b row d := ⟨h.1.below hb, h.2⟩
theorem mn_eq {lasts : Nat} {n : Int} (h : 0 ≤ n) : mn (lasts : Int) n = ((min lasts n.toNat : Nat) : Int) := by unfold mn; split <;> omega
theorem keep_eq {lasts len : Nat} {keep : Int} (h : lasts ≤ len) : ((lasts + min keep.toNat (len - lasts) : Nat) : Int) = lasts + mn (mx keep 0) ((len : Int) - lasts) := by unfold mn mx; split <;> split <;> omega
section
variable {w : World} {b : Nat} {row : Option Nat} {d : DM}
theorem of_EQ {w : World} {b : Nat} {row : Option Nat} {n n' : Int} {bs : List UInt8} {lasts room left : Int} {d' : DM} {e : Ending} {w' : World} (h : EQ (DQ w b row n bs lasts room left) e w') (hn : n = n') (hd : bs = d'.bs ∧ lasts = d'.lasts ∧ room = d'.room ∧ left = d'.left) (hok : d'.ok) : DP (.int .u16 n') w b row d' e w' := by
  obtain ⟨m, rfl, rfl, row', h1, h2, h3⟩ := h
  obtain ⟨rfl, rfl, rfl, rfl⟩ := hd
  subst hn
  exact ⟨rfl, row', ⟨h1, hok⟩, h2, h3⟩
theorem app_eq (d : DM) (l : List UInt8) : (if d.left = 0 then 100 else apE d.bs l d.room) = d.appE l ∧ (if d.left = 0 then d.bs else apB d.bs l d.room) = (d.app l).bs ∧ (d.lasts : Int) = (d.app l).lasts ∧ (d.room : Int) = (d.app l).room ∧ dec d.left = (d.app l).left := by
  unfold DM.appE DM.app apE apB DM.full
  by_cases h0 : d.left = 0
  · simp [h0, dec]
  · by_cases h1 : (d.room : Int) - d.bs.length < l.length <;> simp [h0, h1]
theorem sync_eq (d : DM) : (if d.left = 0 then 100 else 0 : Int) = d.syncE ∧ d.bs = d.sync.bs ∧ (if d.left = 0 then (d.lasts : Int) else d.bs.length) = d.sync.lasts ∧ (d.room : Int) = d.sync.room ∧ dec d.left = d.sync.left := by
  unfold DM.syncE DM.sync
  by_cases h0 : d.left = 0 <;> simp [h0, dec]
theorem cut_eq (d : DM) (n : Int) : (if d.left = 0 then 100 else ctE d.bs n) = d.cutE n ∧ (if d.left = 0 then d.bs else ctB d.bs n) = (d.cut n).bs ∧ (if d.left = 0 then (d.lasts : Int) else ctL d.bs d.lasts n) = (d.cut n).lasts ∧ (d.room : Int) = (d.cut n).room ∧ dec d.left = (d.cut n).left := by
  unfold DM.cutE DM.cut ctE ctB ctL DM.out
  by_cases h0 : d.left = 0
  · simp [h0, dec]
  · by_cases h1 : n < 0 ∨ (d.bs.length : Int) < n
    · simp [h0, h1]
    · simp only [h0, h1, if_false]
      exact ⟨trivial, trivial, mn_eq (by omega), trivial, trivial⟩
theorem m_append {l : List UInt8} {A : Option Addr} {c : Nat} (h : DD w b row d) (hC : kb.C w A l.length l) (hab : ∀ a, A = some a → 0 < l.length → a.block ≠ b) (hl : l.length ≤ 140737480000000) :
    Calls Tryd.prog 26 #[.pointer (some ⟨b, 0, none⟩), .slice A l.length c] w (DP (.int .u16 (d.appE l)) w b row (d.app l)) :=
  (dappend_any h.1 hC hab (by have := h.2.fit; omega) (by have := h.2.room; omega) hl h.2.lef).mono fun _ _ hq => of_EQ hq (app_eq d l).1 (app_eq d l).2 (DM.app_ok h.2 l)
theorem m_sync (h : DD w b row d) : Calls Tryd.prog 27 #[.pointer (some ⟨b, 0, none⟩)] w (DP (.int .u16 d.syncE) w b row d.sync) :=
  (dsync_any h.1 (by have := h.2.fit; have := h.2.room; omega) h.2.lef).mono fun _ _ hq => of_EQ hq (sync_eq d).1 (sync_eq d).2 (DM.sync_ok h.2)
theorem m_cut (n : Int) (h : DD w b row d) : Calls Tryd.prog 33 #[.pointer (some ⟨b, 0, none⟩), .int .i64 n] w (DP (.int .u16 (d.cutE n)) w b row (d.cut n)) :=
  (dcut_any n h.1 (by have := h.2.fit; have := h.2.room; omega) h.2.lef).mono fun _ _ hq => of_EQ hq (cut_eq d n).1 (cut_eq d n).2 (DM.cut_ok h.2 n)
theorem m_crash (keep : Int) (h : DD w b row d) : Calls Tryd.prog 28 #[.pointer (some ⟨b, 0, none⟩), .int .i64 keep] w (DP (.tuple #[]) w b row (d.crash keep)) :=
  (dcrash_any (k := d.kept keep) keep h.1 (by have := h.2.fit; have := h.2.room; omega) (Int.natCast_nonneg _) (by have := h.2.las; omega) (keep_eq h.2.las)).mono fun _ _ ⟨he, h1, h2⟩ => ⟨he, row, ⟨h1, DM.crash_ok h.2 keep⟩, fun k e => .inl e, Kb.of_grown h2⟩
theorem m_read (h : DD w b row d) : Calls Tryd.prog 29 #[.pointer (some ⟨b, 0, none⟩)] w fun e w' => ∃ v, e = .returned v ∧ OB w' w.heap.size v d.bs ∧ Below w.heap.size w w' := dread_any h.1 (by have := h.2.fit; have := h.2.room; omega)
theorem m_new (room : Nat) (w : World) (h : room ≤ 1048576) : Calls Tryd.prog 25 #[.int .i64 room] w fun e w' => e = .returned (.pointer (some ⟨w.heap.size, 0, none⟩)) ∧ DD w' w.heap.size none (DM.new room) ∧ Below w.heap.size w w' :=
  (dnew_some room w (Int.natCast_nonneg _) (by omega)).mono fun _ _ ⟨h1, h2, h3⟩ => ⟨h1, ⟨h2, DM.new_ok h⟩, h3⟩
end
/-- A disk of the call's own: it and its row lie behind what there was. -/
structure One (w0 w : World) (b : Nat) (row : Option Nat) (d : DM) : Prop where
  dd : DD w b row d
  blk : w0.heap.size ≤ b
  row : ∀ k, row = some k → w0.heap.size ≤ k
  bel : Below w0.heap.size w0 w
theorem One.step {w0 w w' : World} {b : Nat} {row row' : Option Nat} {d d' : DM} (h : One w0 w b row d) (hd : DD w' b row' d') (hn : Nw w row row') (hk : Kb b row w w') : One w0 w' b row' d' := by
  refine ⟨hd, h.blk, fun k e => (hn k e).elim (fun e' => h.row k e') (fun h' => Nat.le_trans h.bel.size h'), ?_⟩
  have := h.bel.trans (hk.below (B := w0.heap.size) h.bel.size h.blk h.row)
  exact this
theorem One.dp {w0 w w' : World} {b : Nat} {row : Option Nat} {d d' : DM} {v : Value} {e : Ending} (h : One w0 w b row d) (hp : DP v w b row d' e w') : e = .returned v ∧ ∃ row', One w0 w' b row' d' := by
  obtain ⟨he, row', h1, h2, h3⟩ := hp
  exact ⟨he, row', h.step h1 h2 h3⟩
theorem One.below {w0 w w' : World} {b : Nat} {row : Option Nat} {d : DM} (h : One w0 w b row d) (hb : Below w.heap.size w w') : One w0 w' b row d := ⟨h.dd.below hb, h.blk, h.row, h.bel.trans (hb.mono h.bel.size)⟩
theorem One.drewN {w0 w : World} {b : Nat} {row : Option Nat} {d : DM} (h : One w0 w b row d) (n : Nat) : One w0 (w.drewN n) b row d := h.below (pw_below_drewN (Below.refl _ _) n)
theorem One.new {w0 w w' : World} {room : Nat} (h0 : Below w0.heap.size w0 w) (h : DD w' w.heap.size none (DM.new room)) (hb : Below w.heap.size w w') : One w0 w' w.heap.size none (DM.new room) :=
  ⟨h, h0.size, (fun _ e => by cases e), h0.trans (hb.mono h0.size)⟩
end Go.Proofs.YtbbhjceelghadaaDoor.K
end

section
-- from DiskK
namespace Go.Proofs.YtbbhjceelghadaaDoor.K
open Go Go.RowKit Go.Proofs.YtbbhjceelghadaaDoorW.PrintWords Go.Proofs.YtbbhjceelghadaaDoorW.PrintLast Go.Proofs.YtbbhjceelghadaaDoorW.PrintMore Go.Proofs.YtbbhjceelghadaaDoor.My
attribute [local go_sem] max2_mx min2_mn max_two min_two
/-- A literal of bytes, appended. -/
theorem m_append_new {w0 w : World} {b : Nat} {row : Option Nat} {d : DM} (H : One w0 w b row d) (l : List UInt8) (cells : Array Value) (hc : cells.toList = l.map fun x => Value.int .u8 (x.toNat : Int)) (hl : l.length ≤ 140737480000000) (c : Nat) :
    Calls Tryd.prog 26 #[.pointer (some ⟨b, 0, none⟩), .slice (some ⟨w.heap.size, 0, none⟩) l.length c] (w.alloc (.cells cells 5)) fun e w' => e = .returned (.int .u16 (d.appE l)) ∧ ∃ row', One w0 w' b row' (d.app l) := by
  have h1 := H.below (below_alloc (Below.refl _ _) (.cells cells 5))
  have hlt := H.dd.1.lt
  exact (m_append h1.dd (C_new rfl rfl (by omega) hc) (fun a e _ => by cases e; show w.heap.size ≠ b; omega) hl).mono fun _ _ hp => h1.dp hp
/-- Bytes that came in, appended. -/
theorem m_append_in {w0 w : World} {b : Nat} {row : Option Nat} {d : DM} {A : Option Addr} {c : Nat} {l : List UInt8} (H : One w0 w b row d) (hC : kb.C w0 A l.length l) (hl : l.length ≤ 140737480000000) :
    Calls Tryd.prog 26 #[.pointer (some ⟨b, 0, none⟩), .slice A l.length c] w fun e w' => e = .returned (.int .u16 (d.appE l)) ∧ ∃ row', One w0 w' b row' (d.app l) := by
  have hA : ∀ a, A = some a → 0 < l.length → a.block ≠ b := fun a e h0 => by
    subst e
    have := Kd.C_lt hC h0 (by decide)
    have := H.blk
    omega
  exact (m_append H.dd (Kd.C_below hC H.bel) hA hl).mono fun _ _ hp => H.dp hp
set_option maxRecDepth 20000 in
set_option maxHeartbeats 3200000 in
theorem known10 (w0 : World) : Calls Tryd.prog 24 #[] w0 fun e w' => e = .returned (.bool true) ∧ Below w0.heap.size w0 w' := by
  go_enter Tryd.func24, Tryd.ntmps24
  go_wp2_with fail
  refine (m_new 100 w0 (by omega)).mono ?_
  rintro e w1 ⟨rfl, hd1, hb1⟩
  have h1 := One.new (Below.refl _ _) hd1 hb1
  have H1 := Aside0.mk h1
  clear hd1 hb1 h1
  go_wp2_with fail
  refine (m_append_new H1.out [1, 2] _ rfl (by simp) _).mono ?_
  rintro e w2 ⟨rfl, row2, h2⟩
  rw [show (DM.new 100).app [1, 2] = ⟨[1, 2], 0, 100, -1⟩ from rfl] at h2
  have H2 := Aside0.mk h2
  clear h2
  go_wp2_with fail
  refine (m_sync H2.out.dd).mono ?_
  rintro e w3 hp
  obtain ⟨rfl, row3, h3⟩ := H2.out.dp hp
  rw [show (DM.sync ⟨[1, 2], 0, 100, -1⟩) = ⟨[1, 2], 2, 100, -1⟩ from rfl] at h3
  have H3 := Aside0.mk h3
  rw [show (DM.syncE ⟨[1, 2], 0, 100, -1⟩) = 0 from rfl]
  clear h3 hp
  go_wp2_with fail
  refine (m_append_new H3.out [3, 4, 5] _ rfl (by simp) _).mono ?_
  rintro e w4 ⟨rfl, row4, h4⟩
  rw [show (DM.app ⟨[1, 2], 2, 100, -1⟩ [3, 4, 5]) = ⟨[1, 2, 3, 4, 5], 2, 100, -1⟩ from rfl] at h4
  have H4 := Aside0.mk h4
  clear h4
  go_wp2_with fail
  refine (m_crash 1 H4.out.dd).mono ?_
  rintro e w5 hp
  obtain ⟨rfl, row5, h5⟩ := H4.out.dp hp
  rw [show (DM.crash ⟨[1, 2, 3, 4, 5], 2, 100, -1⟩ 1) = ⟨[1, 2, 3], 3, 100, -1⟩ from rfl] at h5
  have H5 := Aside0.mk h5
  clear h5 hp
  go_wp2_with fail
  refine (m_read H5.out.dd).mono ?_
  rintro e w6 ⟨v, rfl, hv, hb6⟩
  obtain ⟨A, c, rfl, _, hC⟩ := hv.reads
  have H6 := Aside0.mk (H5.out.below hb6).bel
  have k1 : (convert 23 9 (.slice A 3 c)).run Tryd.prog w6 = .ok (.string { data := #[1, 2, 3] }) w6 := conv_string (c := c) hC
  clear hv hb6 hC
  simp only [show ([1, 2, 3] : List UInt8).length = 3 from rfl]
  go_wp2_with fail
  refine (dnew_none (-1) w6 (.inl (by omega))).mono ?_
  rintro e w7 ⟨rfl, k, hk⟩
  have H7 := Aside0.mk (H6.out.trans (show Below w0.heap.size w6 w7 by rw [hk]; exact (pw_below_drewN (Below.refl _ _) _).mono H6.out.size))
  clear hk k1
  go_wp2
  go_ret
  exact ⟨rfl, H7.out⟩
end Go.Proofs.YtbbhjceelghadaaDoor.K
end

section
-- from DiskP
namespace Go.Proofs.YtbbhjceelghadaaDoor.K
open Go Go.RowKit Go.Proofs.YtbbhjceelghadaaDoorW.PrintWords Go.Proofs.YtbbhjceelghadaaDoorW.PrintLast Go.Proofs.YtbbhjceelghadaaDoorW.PrintMore Go.Proofs.YtbbhjceelghadaaDoor.My
attribute [local go_sem] max2_mx min2_mn max_two min_two
theorem cut_free (bs : List UInt8) (lasts room k : Nat) (hk : k ≤ bs.length) : DM.cut ⟨bs, lasts, room, -1⟩ k = ⟨bs.take k, min lasts k, room, -1⟩ ∧ DM.cutE ⟨bs, lasts, room, -1⟩ k = 0 := by
  have h : ¬ DM.out ⟨bs, lasts, room, -1⟩ k := by unfold DM.out; simp only; omega
  unfold DM.cut DM.cutE
  rw [if_neg (show ¬ ((-1 : Int) = 0) by decide), if_neg h, if_neg (show ¬ ((-1 : Int) = 0) by decide), if_neg h]
  exact ⟨by simp [dec], rfl⟩
theorem cut_over (bs : List UInt8) (lasts room k : Nat) (hk : bs.length < k) : DM.cut ⟨bs, lasts, room, -1⟩ k = ⟨bs, lasts, room, -1⟩ ∧ DM.cutE ⟨bs, lasts, room, -1⟩ k = 1 := by
  have h : DM.out ⟨bs, lasts, room, -1⟩ k := by unfold DM.out; simp only; omega
  unfold DM.cut DM.cutE
  rw [if_neg (show ¬ ((-1 : Int) = 0) by decide), if_pos h, if_neg (show ¬ ((-1 : Int) = 0) by decide), if_pos h]
  exact ⟨by simp [dec], rfl⟩
theorem m_read_eq {w : World} {b : Nat} {row : Option Nat} {d : DM} {bl : List UInt8} (hb : d.bs = bl) (h : DD w b row d) : Calls Tryd.prog 29 #[.pointer (some ⟨b, 0, none⟩)] w fun e w' => ∃ A c, e = .returned (.slice A bl.length c) ∧ kb.C w' A bl.length bl ∧ OB w' w.heap.size (.slice A bl.length c) bl ∧ Below w.heap.size w w' := by
  subst hb
  refine (m_read h).mono ?_
  rintro e w' ⟨v, rfl, hv, hb⟩
  obtain ⟨A, c, rfl, _, hC⟩ := hv.reads
  exact ⟨A, c, rfl, hC, hv, hb⟩
theorem m_cut_over {w0 w : World} {b : Nat} {row : Option Nat} {bl : List UInt8} {k room : Nat} (h : One w0 w b row ⟨bl, k, room, -1⟩) (n : Nat) (hn : bl.length < n) : Calls Tryd.prog 33 #[.pointer (some ⟨b, 0, none⟩), .int .i64 n] w fun e w' => e = .returned (.int .u16 1) ∧ ∃ row', One w0 w' b row' ⟨bl, k, room, -1⟩ := by
  refine (m_cut n h.dd).mono ?_
  intro e w' hp
  rw [(cut_over bl k room n hn).1, (cut_over bl k room n hn).2] at hp
  exact h.dp hp
theorem bs_append (x y : List UInt8) : bs x ++ bs y = bs (x ++ y) := by
  apply ByteArray.ext
  simp [bs]
theorem cuts_k (n : Int) (la : Nat) (hla : la ≤ 1000) : ∃ k : Nat, k ≤ la ∧ (mx n 0).tmod ((la : Int) + 1) = k := by
  have h0 : 0 ≤ mx n 0 := by unfold mx; split <;> omega
  refine ⟨((mx n 0) % ((la : Int) + 1)).toNat, ?_, ?_⟩
  · have := Int.emod_lt_of_pos (mx n 0) (show (0 : Int) < (la : Int) + 1 by omega)
    omega
  · rw [Int.tmod_eq_emod_of_nonneg h0]
    have := Int.emod_nonneg (mx n 0) (show ((la : Int) + 1) ≠ 0 by omega)
    omega
set_option maxRecDepth 20000 in
set_option maxHeartbeats 6400000 in
theorem diskCuts_walk (A : Option Addr) (ca : Nat) (la : List UInt8) (B : Option Addr) (cb : Nat) (lb : List UInt8) (n : Int) (sync : Bool) (w0 : World) (hA : kb.C w0 A la.length la) (hca : la.length ≤ ca) (hB : kb.C w0 B lb.length lb) (hcb : lb.length ≤ cb) :
    Calls Tryd.prog 6 #[.slice A la.length ca, .slice B lb.length cb, .int .i64 n, .bool sync] w0 fun e w' => e = .returned (.bool true) ∧ Below w0.heap.size w0 w' := by
  have HA := Aside0.mk hA
  have HB := Aside0.mk hB
  clear hA hB
  by_cases h1 : (1000 : Int) < la.length
  · go_enter Tryd.func6, Tryd.ntmps6
    go_wp2_with fail
    refine (known10 _).mono ?_
    rintro e w1 ⟨rfl, hb1⟩
    go_wp2
    go_ret
    exact ⟨rfl, hb1⟩
  · by_cases h2 : (1000 : Int) < lb.length
    · go_enter Tryd.func6, Tryd.ntmps6
      go_wp2_with fail
      refine (known10 _).mono ?_
      rintro e w1 ⟨rfl, hb1⟩
      go_wp2
      go_ret
      exact ⟨rfl, hb1⟩
    · obtain ⟨k, hk, hkk⟩ := cuts_k n la.length (by omega)
      go_enter Tryd.func6, Tryd.ntmps6
      go_wp2_with fail
      refine (known10 _).mono ?_
      rintro e w1 ⟨rfl, hb1⟩
      go_wp2_with fail
      refine (m_new 5000 w1 (by omega)).mono ?_
      rintro e w2 ⟨rfl, hd2, hb2⟩
      have H2 := Aside0.mk (One.new hb1 hd2 hb2)
      clear hd2 hb2 hb1
      obtain ⟨b, hbb⟩ : ∃ b, b = w1.heap.size := ⟨_, rfl⟩
      rw [← hbb] at H2 ⊢
      clear hbb
      go_wp2_with fail
      refine (m_append_in H2.out HA.out (by omega)).mono ?_
      rintro e w3 ⟨rfl, row3, h3⟩
      rw [show (DM.new 5000).app la = ⟨la, 0, 5000, -1⟩ from by simp [DM.new, DM.app, DM.full, dec]; omega] at h3
      have H3 := Aside0.mk h3
      clear h3
      go_wp2_with fail
      refine (m_sync H3.out.dd).mono ?_
      rintro e w4 hp
      obtain ⟨rfl, row4, h4⟩ := H3.out.dp hp
      rw [show (DM.sync ⟨la, 0, 5000, -1⟩) = ⟨la, la.length, 5000, -1⟩ from rfl] at h4
      have H4 := Aside0.mk h4
      clear h4 hp
      have hcf := cut_free la la.length 5000 k hk
      rw [Nat.min_eq_right hk] at hcf
      have HCF := Aside0.mk hcf
      clear hcf
      go_wp2_with fail
      refine (m_cut k H4.out.dd).mono ?_
      rintro e w5 hp
      obtain ⟨rfl, row5, h5⟩ := H4.out.dp hp
      rw [HCF.out.1] at h5
      rw [HCF.out.2]
      have H5 := Aside0.mk h5
      clear h5 hp
      have hlt : (la.take k).length = k := by rw [List.length_take]; omega
      have HLT := Aside0.mk hlt
      have e6 : (DM.app ⟨la.take k, k, 5000, -1⟩ lb) = ⟨la.take k ++ lb, k, 5000, -1⟩ := by simp [DM.app, DM.full, dec, hlt]; omega
      have e7 : (DM.appE ⟨la.take k, k, 5000, -1⟩ lb) = 0 := by simp [DM.appE, DM.full, hlt]; omega
      have E6 := Aside0.mk e6
      have E7 := Aside0.mk e7
      clear hlt e6 e7
      go_wp2_with fail
      refine (m_append_in H5.out HB.out (by omega)).mono ?_
      rintro e w6 ⟨rfl, row6, h6⟩
      rw [E6.out] at h6
      rw [E7.out]
      have H6 := Aside0.mk h6
      clear h6 E6 E7
      go_wp2_with fail
      refine (m_read H6.out.dd).mono ?_
      rintro e w7 ⟨v, rfl, hv, hb7⟩
      obtain ⟨A7, c7, rfl, _, hC7⟩ := hv.reads
      obtain ⟨q7, hq7⟩ : ∃ q, q = la.take k ++ lb := ⟨_, rfl⟩
      have k7 : (convert 23 9 (.slice A7 (la.take k ++ lb).length c7)).run Tryd.prog w7 = .ok (.string (bs (la.take k ++ lb))) w7 := conv_string (c := c7) hC7
      have H7 := Aside0.mk (H6.out.below hb7)
      rw [← hq7] at k7 ⊢
      have HQ7 := Aside0.mk hq7
      clear hq7 hv hb7 hC7
      cases sync
      · go_wp2_with fail
        refine (m_crash 0 H7.out.dd).mono ?_
        rintro e w8 hp
        obtain ⟨rfl, row8, h8⟩ := H7.out.dp hp
        have e8 : (DM.crash ⟨la.take k ++ lb, k, 5000, -1⟩ 0) = ⟨la.take k, k, 5000, -1⟩ := by
          simp only [DM.crash, DM.kept]
          simp [HLT.out]
        rw [e8] at h8
        have H8 := Aside0.mk h8
        clear h8 hp e8 k7
        have hcut := cut_h A la.length ca k (k : Int) rfl hk hca
        have k8 : (convert 23 9 (.slice A k ca)).run Tryd.prog w8 = .ok (.string (bs (la.take k))) w8 := conv_string (c := ca) (C_take_n (Kd.C_below HA.out H8.out.bel) k hk)
        have mixed : Tryd.prog.follows Departure.mixedOrders = true := by kernel_rfl
        have k9 : (convert 23 9 (.slice B lb.length cb)).run Tryd.prog w8 = .ok (.string (bs lb)) w8 := conv_string (c := cb) (Kd.C_below HB.out H8.out.bel)
        have hadd : bs (la.take k) ++ bs lb = bs q7 := by rw [HQ7.out]; exact bs_append _ _
        have hsz : (bs (la.take k)).size = k := by rw [bs_size]; exact HLT.out
        go_wp2
        obtain ⟨s1, hs1⟩ : ∃ s, s = bs (la.take k) := ⟨_, rfl⟩
        obtain ⟨s2, hs2⟩ : ∃ s, s = bs lb := ⟨_, rfl⟩
        obtain ⟨s7, hs7⟩ : ∃ s, s = bs q7 := ⟨_, rfl⟩
        rw [← hs1] at hadd hsz k8 ⊢
        rw [← hs2] at hadd k9
        rw [← hs7] at hadd ⊢
        have HS1 := Aside0.mk hs1
        have HS2 := Aside0.mk hs2
        clear hs1
        have H8d := Aside0.mk (show One w0 w8.drew b row8 _ from H8.out.below (below_drew (Below.refl _ _)))
        have hlen1 : ¬ (9223372036854775807 < k + s2.size) := by rw [hs2, bs_size]; omega
        obtain ⟨bl, hbe⟩ : ∃ bl, bl = la.take k := ⟨_, rfl⟩
        have hbl : (DM.mk (la.take k) k 5000 (-1)).bs = bl := hbe.symm
        have HBE := Aside0.mk hbe
        have hkI : ((k + 1 : Nat) : Int) = (k : Int) + 1 := by omega
        have HKI := Aside0.mk hkI
        have HBL := Aside0.mk hbl
        clear hs2 hs7 hbl hkI hbe
        have hwk : IntKind.i64.wrap ((k : Int) + 1) = (k : Int) + 1 := by rw [IntKind.wrap_i64]; omega
        have hwk2 : wrap64 ((k : Int) + 1) = (k : Int) + 1 := by unfold wrap64; omega
        refine start_ (n := 33) (S := fun w' => (convert 23 9 (.slice A k ca)).run Tryd.prog w' = .ok (.string s1) w' ∧ (convert 23 9 (.slice B lb.length cb)).run Tryd.prog w' = .ok (.string s2) w') (ds := [19, 20, 29]) #[false, false, false, false, false, false, false, false, false, false, false, false, false, false, false, false, false, false, false, false, false, false, false, false, false, false, false, false, false, false, false, false, false] (by kernel_rfl) rfl rfl ⟨(by rw [HS1.out]; exact conv_string (c := ca) (C_take_n (Kd.C_below HA.out (H8d.out.bel)) k hk)), (by rw [HS2.out]; exact conv_string (c := cb) (Kd.C_below HB.out (H8d.out.bel)))⟩ (fun hHeld => ?_)
        refine with_tabW (T := (true, [([], []), ([0], [0]), ([1], [1]), ([2], [2]), ([3, 2], [2, 3]), ([2, 4], [2, 4]), ([5, 2], [5]), ([6], [6]), ([6], [6]), ([6], [6]), ([8, 9, 6], [6, 8, 9]), ([10, 6], [6, 10]), ([6], [6]), ([12, 6], [6, 12]), ([11, 13, 6], [6, 11, 13]), ([7, 14, 6], [6, 7, 14]), ([6, 15], [6, 15]), ([16, 6], [16]), ([17], [17]), ([18, 17, 17], [17, 18]), ([19, 17], [17, 19]), ([17], [17]), ([20, 21, 17], [17, 20, 21]), ([17, 22], [17, 22]), ([23, 19], [23]), ([24], [24]), ([24], [24]), ([26, 24], [24, 26]), ([27, 24], [24, 27]), ([25, 28, 24, 24], [24, 25, 28]), ([29, 24], [24, 29]), ([24, 30], [24, 30]), ([31, 29, 0, 1, 2, 3, 4, 5, 6, 7, 8, 9, 10, 11, 12, 13, 14, 15, 16, 17, 18, 19, 20, 21, 22, 23, 24, 25, 26, 27, 28, 29, 30, 31], [31])])) (B := [0, 1, 3, 7, 15, 31, 63, 127, 127, 127, 895, 1919, 127, 4223, 16255, 32767, 65535, 131071, 262143, 524287, 1048575, 262143, 4194303, 8388607, 16777215, 33554431, 33554431, 100663295, 234881023, 536870911, 1073741823, 2147483647, 4294967295]) (by kernel_rfl) (by kernel_rfl) (fun HT_ HW_ => ?_)
        refine pure_ (i := 0) (N := some 65) (v := ?_) (a' := ?_) #[true, false, false, false, false, false, false, false, false, false, false, false, false, false, false, false, false, false, false, false, false, false, false, false, false, false, false, false, false, false, false, false, false] rfl rfl (any_of HT_.out (by kernel_rfl)) (fun _ _ _ h => h) (Or.inl ⟨by rfl, ?_⟩) ?_ ?_
        rotate_left
        · intro w'
          go_simp
          with_reducible rfl
        rotate_left
        · simp only [Act.put, List.setIfInBounds_toArray, List.set_cons_zero, List.set_cons_succ, i64_w, i32_w]
          rfl
        refine pure_ (i := 1) (N := some 66) (v := ?_) (a' := ?_) #[true, true, false, false, false, false, false, false, false, false, false, false, false, false, false, false, false, false, false, false, false, false, false, false, false, false, false, false, false, false, false, false, false] rfl rfl (any_of HT_.out (by kernel_rfl)) (fun _ _ _ h => h) (Or.inl ⟨by rfl, ?_⟩) ?_ ?_
        rotate_left
        · intro w'
          go_simp
          with_reducible rfl
        rotate_left
        · simp only [Act.put, List.setIfInBounds_toArray, List.set_cons_zero, List.set_cons_succ, i64_w, i32_w]
          rfl
        refine pure_ (i := 2) (N := some 67) (v := ?_) (a' := ?_) #[true, true, true, false, false, false, false, false, false, false, false, false, false, false, false, false, false, false, false, false, false, false, false, false, false, false, false, false, false, false, false, false, false] rfl rfl (any_of HT_.out (by kernel_rfl)) (fun _ _ _ h => h) (Or.inl ⟨by rfl, ?_⟩) ?_ ?_
        rotate_left
        · intro w'
          go_simp
          with_reducible rfl
        rotate_left
        · simp only [Act.put, List.setIfInBounds_toArray, List.set_cons_zero, List.set_cons_succ, i64_w, i32_w]
          rfl
        refine pure_ (i := 3) (N := some 68) (v := ?_) (a' := ?_) #[true, true, true, true, false, false, false, false, false, false, false, false, false, false, false, false, false, false, false, false, false, false, false, false, false, false, false, false, false, false, false, false, false] rfl rfl (any_of HT_.out (by kernel_rfl)) (fun _ _ _ h => h) (Or.inl ⟨by rfl, ?_⟩) ?_ ?_
        rotate_left
        · intro w'
          go_simp
          with_reducible rfl
        rotate_left
        · simp only [Act.put, List.setIfInBounds_toArray, List.set_cons_zero, List.set_cons_succ, i64_w, i32_w]
          rfl
        refine pure_ (i := 4) (N := some 69) (v := ?_) (a' := ?_) #[true, true, true, true, true, false, false, false, false, false, false, false, false, false, false, false, false, false, false, false, false, false, false, false, false, false, false, false, false, false, false, false, false] rfl rfl (any_of HT_.out (by kernel_rfl)) (fun _ _ _ h => h) (Or.inl ⟨by rfl, ?_⟩) ?_ ?_
        rotate_left
        · intro w'
          go_simp
          with_reducible rfl
        rotate_left
        · simp only [Act.put, List.setIfInBounds_toArray, List.set_cons_zero, List.set_cons_succ, i64_w, i32_w]
          rfl
        refine pure_ (i := 5) (N := some 70) (v := ?_) (a' := ?_) #[true, true, true, true, true, true, false, false, false, false, false, false, false, false, false, false, false, false, false, false, false, false, false, false, false, false, false, false, false, false, false, false, false] rfl rfl (any_of HT_.out (by kernel_rfl)) (fun _ _ _ h => h) (Or.inl ⟨by rfl, ?_⟩) ?_ ?_
        rotate_left
        · intro w'
          go_simp
          with_reducible rfl
        rotate_left
        · simp only [Act.put, List.setIfInBounds_toArray, List.set_cons_zero, List.set_cons_succ, i64_w, i32_w]
          rfl
        refine pure_ (i := 6) (N := some 71) (v := ?_) (a' := ?_) #[true, true, true, true, true, true, true, false, false, false, false, false, false, false, false, false, false, false, false, false, false, false, false, false, false, false, false, false, false, false, false, false, false] rfl rfl (any_of HT_.out (by kernel_rfl)) (fun _ _ _ h => h) (Or.inl ⟨by rfl, ?_⟩) ?_ ?_
        rotate_left
        · intro w'
          go_simp
          with_reducible rfl
        rotate_left
        · simp only [Act.put, List.setIfInBounds_toArray, List.set_cons_zero, List.set_cons_succ, i64_w, i32_w]
          rfl
        refine pure_ (i := 7) (N := some 72) (v := ?_) (a' := ?_) #[true, true, true, true, true, true, true, true, false, false, false, false, false, false, false, false, false, false, false, false, false, false, false, false, false, false, false, false, false, false, false, false, false] rfl rfl (any_of HT_.out (by kernel_rfl)) (fun _ _ _ h => h) (Or.inl ⟨by rfl, ?_⟩) ?_ ?_
        rotate_left
        · intro w'
          go_simp
          with_reducible rfl
        rotate_left
        · simp only [Act.put, List.setIfInBounds_toArray, List.set_cons_zero, List.set_cons_succ, i64_w, i32_w]
          rfl
        refine pure_ (i := 8) (N := some 73) (v := ?_) (a' := ?_) #[true, true, true, true, true, true, true, true, true, false, false, false, false, false, false, false, false, false, false, false, false, false, false, false, false, false, false, false, false, false, false, false, false] rfl rfl (any_of HT_.out (by kernel_rfl)) (fun _ _ _ h => h) (Or.inl ⟨by rfl, ?_⟩) ?_ ?_
        rotate_left
        · intro w'
          go_simp
          with_reducible rfl
        rotate_left
        · simp only [Act.put, List.setIfInBounds_toArray, List.set_cons_zero, List.set_cons_succ, i64_w, i32_w]
          rfl
        refine pure_ (i := 9) (N := some 74) (v := ?_) (a' := ?_) #[true, true, true, true, true, true, true, true, true, true, false, false, false, false, false, false, false, false, false, false, false, false, false, false, false, false, false, false, false, false, false, false, false] rfl rfl (any_of HT_.out (by kernel_rfl)) (fun _ _ _ h => h) (Or.inl ⟨by rfl, ?_⟩) ?_ ?_
        rotate_left
        · intro w'
          go_simp
          with_reducible rfl
        rotate_left
        · simp only [Act.put, List.setIfInBounds_toArray, List.set_cons_zero, List.set_cons_succ, i64_w, i32_w]
          rfl
        refine pure_ (i := 10) (N := some 75) (v := ?_) (a' := ?_) #[true, true, true, true, true, true, true, true, true, true, true, false, false, false, false, false, false, false, false, false, false, false, false, false, false, false, false, false, false, false, false, false, false] rfl rfl (any_of HT_.out (by kernel_rfl)) (fun _ _ _ h => h) (Or.inl ⟨by rfl, ?_⟩) ?_ ?_
        rotate_left
        · intro w'
          go_simp
          with_reducible rfl
        rotate_left
        · simp only [Act.put, List.setIfInBounds_toArray, List.set_cons_zero, List.set_cons_succ, i64_w, i32_w]
          rfl
        refine pure_ (i := 12) (N := some 77) (v := ?_) (a' := ?_) #[true, true, true, true, true, true, true, true, true, true, true, false, true, false, false, false, false, false, false, false, false, false, false, false, false, false, false, false, false, false, false, false, false] rfl rfl (any_of HT_.out (by kernel_rfl)) (fun _ _ _ h => h) (Or.inl ⟨by rfl, ?_⟩) ?_ ?_
        rotate_left
        · intro w'
          go_simp
          with_reducible rfl
        rotate_left
        · simp only [Act.put, List.setIfInBounds_toArray, List.set_cons_zero, List.set_cons_succ, i64_w, i32_w]
          rfl
        refine take_ (i := 11) (N := some 76) (v := ?_) (a' := ?_) #[true, true, true, true, true, true, true, true, true, true, true, true, true, false, false, false, false, false, false, false, false, false, false, false, false, false, false, false, false, false, false, false, false] rfl rfl (take_ofW HT_.out HW_.out (by kernel_rfl)) (fun _ _ _ h => h) (Or.inl ⟨by rfl, ?_⟩) hHeld ?_ ?_
        rotate_left
        · rintro w' ⟨s0, s1⟩
          go_simp
          with_reducible rfl
        rotate_left
        · simp only [Act.put, List.setIfInBounds_toArray, List.set_cons_zero, List.set_cons_succ, i64_w, i32_w]
          rfl
        refine take_ (i := 13) (N := some 78) (v := ?_) (a' := ?_) #[true, true, true, true, true, true, true, true, true, true, true, true, true, true, false, false, false, false, false, false, false, false, false, false, false, false, false, false, false, false, false, false, false] rfl rfl (take_ofW HT_.out HW_.out (by kernel_rfl)) (fun _ _ _ h => h) (Or.inl ⟨by rfl, ?_⟩) hHeld ?_ ?_
        rotate_left
        · rintro w' ⟨s0, s1⟩
          go_simp
          with_reducible rfl
        rotate_left
        · simp only [Act.put, List.setIfInBounds_toArray, List.set_cons_zero, List.set_cons_succ, i64_w, i32_w]
          rfl
        refine pure_ (i := 14) (N := some 79) (v := ?_) (a' := ?_) #[true, true, true, true, true, true, true, true, true, true, true, true, true, true, true, false, false, false, false, false, false, false, false, false, false, false, false, false, false, false, false, false, false] rfl rfl (any_of HT_.out (by kernel_rfl)) (fun _ _ _ h => h) (Or.inl ⟨by rfl, ?_⟩) ?_ ?_
        rotate_left
        · intro w'
          go_simp
          with_reducible rfl
        rotate_left
        · simp only [Act.put, List.setIfInBounds_toArray, List.set_cons_zero, List.set_cons_succ, i64_w, i32_w]
          rfl
        refine pure_ (i := 15) (N := some 80) (v := ?_) (a' := ?_) #[true, true, true, true, true, true, true, true, true, true, true, true, true, true, true, true, false, false, false, false, false, false, false, false, false, false, false, false, false, false, false, false, false] rfl rfl (any_of HT_.out (by kernel_rfl)) (fun _ _ _ h => h) (Or.inl ⟨by rfl, ?_⟩) ?_ ?_
        rotate_left
        · intro w'
          go_simp
          with_reducible rfl
        rotate_left
        · simp only [Act.put, List.setIfInBounds_toArray, List.set_cons_zero, List.set_cons_succ, i64_w, i32_w]
          rfl
        refine pure_ (i := 16) (N := some 81) (v := ?_) (a' := ?_) #[true, true, true, true, true, true, true, true, true, true, true, true, true, true, true, true, true, false, false, false, false, false, false, false, false, false, false, false, false, false, false, false, false] rfl rfl (any_of HT_.out (by kernel_rfl)) (fun _ _ _ h => h) (Or.inl ⟨by rfl, ?_⟩) ?_ ?_
        rotate_left
        · intro w'
          go_simp
          with_reducible rfl
        rotate_left
        · simp only [Act.put, List.setIfInBounds_toArray, List.set_cons_zero, List.set_cons_succ, i64_w, i32_w]
          rfl
        refine pure_ (i := 17) (N := some 82) (v := ?_) (a' := ?_) #[true, true, true, true, true, true, true, true, true, true, true, true, true, true, true, true, true, true, false, false, false, false, false, false, false, false, false, false, false, false, false, false, false] rfl rfl (any_of HT_.out (by kernel_rfl)) (fun _ _ _ h => h) (Or.inl ⟨by rfl, ?_⟩) ?_ ?_
        rotate_left
        · intro w'
          go_simp
          with_reducible rfl
        rotate_left
        · simp only [Act.put, List.setIfInBounds_toArray, List.set_cons_zero, List.set_cons_succ, i64_w, i32_w]
          rfl
        refine pure_ (i := 18) (N := some 83) (v := ?_) (a' := ?_) #[true, true, true, true, true, true, true, true, true, true, true, true, true, true, true, true, true, true, true, false, false, false, false, false, false, false, false, false, false, false, false, false, false] rfl rfl (any_of HT_.out (by kernel_rfl)) (fun _ _ _ h => h) (Or.inl ⟨by rfl, ?_⟩) ?_ ?_
        rotate_left
        · intro w'
          go_simp
          with_reducible rfl
        rotate_left
        · simp only [Act.put, List.setIfInBounds_toArray, List.set_cons_zero, List.set_cons_succ, i64_w, i32_w]
          rfl
        refine pure_ (i := 21) (N := some 86) (v := ?_) (a' := ?_) #[true, true, true, true, true, true, true, true, true, true, true, true, true, true, true, true, true, true, true, false, false, true, false, false, false, false, false, false, false, false, false, false, false] rfl rfl (any_of HT_.out (by kernel_rfl)) (fun _ _ _ h => h) (Or.inl ⟨by rfl, ?_⟩) ?_ ?_
        rotate_left
        · intro w'
          go_simp
          with_reducible rfl
        rotate_left
        · simp only [Act.put, List.setIfInBounds_toArray, List.set_cons_zero, List.set_cons_succ, i64_w, i32_w]
          rfl
        refine last_ (i := 19) (N := some 84) #[true, true, true, true, true, true, true, true, true, true, true, true, true, true, true, true, true, true, true, true, false, true, false, false, false, false, false, false, false, false, false, false, false] rfl rfl (one_of HT_.out (by kernel_rfl)) (by decide) (fun K hK => ?_)
        refine goes_ Tryd.func29 (by kernel_rfl) rfl #[.pointer (some ⟨b, 0, none⟩)] (by rfl) rfl rfl (by simp only [List.map_toArray, List.map_cons, List.map_nil]; rfl) ?_
        with_reducible refine (m_read_eq HBL.out H8d.out.dd).mono ?_
        rintro e w9 ⟨A9, c9, rfl, hC9, _, hb9⟩
        refine ⟨_, rfl, ?_⟩
        have k10 : (convert 23 9 (.slice A9 bl.length c9)).run Tryd.prog w9 = .ok (.string s1) w9 := by rw [HS1.out, ← HBE.out]; exact conv_string (c := c9) hC9
        have H9 := Aside0.mk (H8d.out.below hb9)
        clear hb9 hC9
        refine hK.out _ _ ?_
        clear hK K
        refine norm_ (a' := ?_) ?_ ?_
        rotate_left
        · show Act.put _ (some 84) _ = _
          simp only [Act.put, List.setIfInBounds_toArray, List.set_cons_zero, List.set_cons_succ, i64_w, i32_w]
          rfl
        refine last_ (i := 20) (N := some 85) #[true, true, true, true, true, true, true, true, true, true, true, true, true, true, true, true, true, true, true, true, true, true, false, false, false, false, false, false, false, false, false, false, false] rfl rfl (one_of HT_.out (by kernel_rfl)) (by decide) (fun K hK => ?_)
        refine value_ (w1 := ?_) (v := ?_) (by rfl) rfl ?_ ?_
        rotate_left 2
        · go_simp
          constructor
          · rfl
          · rfl
        refine hK.out _ _ ?_
        clear hK K
        refine norm_ (a' := ?_) ?_ ?_
        rotate_left
        · show Act.put _ (some 85) _ = _
          simp only [Act.put, List.setIfInBounds_toArray, List.set_cons_zero, List.set_cons_succ, i64_w, i32_w]
          rfl
        refine pure_ (i := 22) (N := some 87) (v := ?_) (a' := ?_) #[true, true, true, true, true, true, true, true, true, true, true, true, true, true, true, true, true, true, true, true, true, true, true, false, false, false, false, false, false, false, false, false, false] rfl rfl (any_of HT_.out (by kernel_rfl)) (fun _ _ _ h => h) (Or.inl ⟨by rfl, ?_⟩) ?_ ?_
        rotate_left
        · intro w'
          go_simp
          with_reducible rfl
        rotate_left
        · simp only [Act.put, List.setIfInBounds_toArray, List.set_cons_zero, List.set_cons_succ, i64_w, i32_w]
          rfl
        refine pure_ (i := 23) (N := some 88) (v := ?_) (a' := ?_) #[true, true, true, true, true, true, true, true, true, true, true, true, true, true, true, true, true, true, true, true, true, true, true, true, false, false, false, false, false, false, false, false, false] rfl rfl (any_of HT_.out (by kernel_rfl)) (fun _ _ _ h => h) (Or.inl ⟨by rfl, ?_⟩) ?_ ?_
        rotate_left
        · intro w'
          go_simp
          with_reducible rfl
        rotate_left
        · simp only [Act.put, List.setIfInBounds_toArray, List.set_cons_zero, List.set_cons_succ, i64_w, i32_w]
          rfl
        refine pure_ (i := 24) (N := some 89) (v := ?_) (a' := ?_) #[true, true, true, true, true, true, true, true, true, true, true, true, true, true, true, true, true, true, true, true, true, true, true, true, true, false, false, false, false, false, false, false, false] rfl rfl (any_of HT_.out (by kernel_rfl)) (fun _ _ _ h => h) (Or.inl ⟨by rfl, ?_⟩) ?_ ?_
        rotate_left
        · intro w'
          go_simp
          with_reducible rfl
        rotate_left
        · simp only [Act.put, List.setIfInBounds_toArray, List.set_cons_zero, List.set_cons_succ, i64_w, i32_w]
          rfl
        refine pure_ (i := 25) (N := some 90) (v := ?_) (a' := ?_) #[true, true, true, true, true, true, true, true, true, true, true, true, true, true, true, true, true, true, true, true, true, true, true, true, true, true, false, false, false, false, false, false, false] rfl rfl (any_of HT_.out (by kernel_rfl)) (fun _ _ _ h => h) (Or.inl ⟨by rfl, ?_⟩) ?_ ?_
        rotate_left
        · intro w'
          go_simp
          with_reducible rfl
        rotate_left
        · simp only [Act.put, List.setIfInBounds_toArray, List.set_cons_zero, List.set_cons_succ, i64_w, i32_w]
          rfl
        refine pure_ (i := 26) (N := some 91) (v := ?_) (a' := ?_) #[true, true, true, true, true, true, true, true, true, true, true, true, true, true, true, true, true, true, true, true, true, true, true, true, true, true, true, false, false, false, false, false, false] rfl rfl (any_of HT_.out (by kernel_rfl)) (fun _ _ _ h => h) (Or.inl ⟨by rfl, ?_⟩) ?_ ?_
        rotate_left
        · intro w'
          go_simp
          with_reducible rfl
        rotate_left
        · simp only [Act.put, List.setIfInBounds_toArray, List.set_cons_zero, List.set_cons_succ, i64_w, i32_w]
          rfl
        refine pure_ (i := 27) (N := some 92) (v := ?_) (a' := ?_) #[true, true, true, true, true, true, true, true, true, true, true, true, true, true, true, true, true, true, true, true, true, true, true, true, true, true, true, true, false, false, false, false, false] rfl rfl (any_of HT_.out (by kernel_rfl)) (fun _ _ _ h => h) (Or.inl ⟨by rfl, ?_⟩) ?_ ?_
        rotate_left
        · intro w'
          go_simp
          with_reducible rfl
        rotate_left
        · simp only [Act.put, List.setIfInBounds_toArray, List.set_cons_zero, List.set_cons_succ, i64_w, i32_w]
          rfl
        refine pure_ (i := 28) (N := some 93) (v := ?_) (a' := ?_) #[true, true, true, true, true, true, true, true, true, true, true, true, true, true, true, true, true, true, true, true, true, true, true, true, true, true, true, true, true, false, false, false, false] rfl rfl (any_of HT_.out (by kernel_rfl)) (fun _ _ _ h => h) (Or.inl ⟨by rfl, ?_⟩) ?_ ?_
        rotate_left
        · intro w'
          go_simp
          with_reducible rfl
        rotate_left
        · simp only [Act.put, List.setIfInBounds_toArray, List.set_cons_zero, List.set_cons_succ, i64_w, i32_w]
          rfl
        refine last_ (i := 29) (N := some 94) #[true, true, true, true, true, true, true, true, true, true, true, true, true, true, true, true, true, true, true, true, true, true, true, true, true, true, true, true, true, true, false, false, false] rfl rfl (one_of HT_.out (by kernel_rfl)) (by decide) (fun K hK => ?_)
        refine goes_ Tryd.func33 (by kernel_rfl) rfl #[.pointer (some ⟨b, 0, none⟩), .int .i64 ((k : Int) + 1)] (by rfl) rfl rfl (by simp only [List.map_toArray, List.map_cons, List.map_nil]; rfl) ?_
        with_reducible refine ((HKI.out ▸ m_cut_over H9.out (k + 1) (by rw [HLT.out]; omega))).mono ?_
        rintro e w10 ⟨rfl, row10, h10⟩
        refine ⟨_, rfl, ?_⟩
        refine hK.out _ _ ?_
        clear hK K
        refine norm_ (a' := ?_) ?_ ?_
        rotate_left
        · show Act.put _ (some 94) _ = _
          simp only [Act.put, List.setIfInBounds_toArray, List.set_cons_zero, List.set_cons_succ, i64_w, i32_w]
          rfl
        refine pure_ (i := 30) (N := some 95) (v := ?_) (a' := ?_) #[true, true, true, true, true, true, true, true, true, true, true, true, true, true, true, true, true, true, true, true, true, true, true, true, true, true, true, true, true, true, true, false, false] rfl rfl (any_of HT_.out (by kernel_rfl)) (fun _ _ _ h => h) (Or.inl ⟨by rfl, ?_⟩) ?_ ?_
        rotate_left
        · intro w'
          go_simp
          with_reducible rfl
        rotate_left
        · simp only [Act.put, List.setIfInBounds_toArray, List.set_cons_zero, List.set_cons_succ, i64_w, i32_w]
          rfl
        refine pure_ (i := 31) (N := some 96) (v := ?_) (a' := ?_) #[true, true, true, true, true, true, true, true, true, true, true, true, true, true, true, true, true, true, true, true, true, true, true, true, true, true, true, true, true, true, true, true, false] rfl rfl (any_of HT_.out (by kernel_rfl)) (fun _ _ _ h => h) (Or.inl ⟨by rfl, ?_⟩) ?_ ?_
        rotate_left
        · intro w'
          go_simp
          with_reducible rfl
        rotate_left
        · simp only [Act.put, List.setIfInBounds_toArray, List.set_cons_zero, List.set_cons_succ, i64_w, i32_w]
          rfl
        refine pure_ (i := 32) (N := some 8) (v := ?_) (a' := ?_) #[true, true, true, true, true, true, true, true, true, true, true, true, true, true, true, true, true, true, true, true, true, true, true, true, true, true, true, true, true, true, true, true, true] rfl rfl (any_of HT_.out (by kernel_rfl)) (fun _ _ _ h => h) (Or.inl ⟨by rfl, ?_⟩) ?_ ?_
        rotate_left
        · intro w'
          go_simp
          with_reducible rfl
        rotate_left
        · simp only [Act.put, List.setIfInBounds_toArray, List.set_cons_zero, List.set_cons_succ, i64_w, i32_w]
          rfl
        refine done_ (done_of HT_.out (by kernel_rfl)) ?_
        go_wp2
        go_ret
        exact ⟨rfl, h10.bel⟩
      · go_wp2_with fail
        refine (m_sync H7.out.dd).mono ?_
        rintro e w8 hp
        obtain ⟨rfl, row8, h8⟩ := H7.out.dp hp
        rw [show (DM.sync ⟨la.take k ++ lb, k, 5000, -1⟩) = ⟨q7, q7.length, 5000, -1⟩ from by rw [HQ7.out]; rfl] at h8
        have H8 := Aside0.mk h8
        clear h8 hp k7
        go_wp2_with fail
        refine (m_crash 0 H8.out.dd).mono ?_
        rintro e w9 hp
        obtain ⟨rfl, row9, h9⟩ := H8.out.dp hp
        rw [show (DM.crash ⟨q7, q7.length, 5000, -1⟩ 0) = ⟨q7, q7.length, 5000, -1⟩ from by simp [DM.crash, DM.kept]] at h9
        have H9 := Aside0.mk h9
        clear h9 hp
        have hcut := cut_h A la.length ca k (k : Int) rfl hk hca
        have k8 : (convert 23 9 (.slice A k ca)).run Tryd.prog w9 = .ok (.string (bs (la.take k))) w9 := conv_string (c := ca) (C_take_n (Kd.C_below HA.out H9.out.bel) k hk)
        have k9 : (convert 23 9 (.slice B lb.length cb)).run Tryd.prog w9 = .ok (.string (bs lb)) w9 := conv_string (c := cb) (Kd.C_below HB.out H9.out.bel)
        have mixed : Tryd.prog.follows Departure.mixedOrders = true := by kernel_rfl
        have hadd : bs (la.take k) ++ bs lb = bs q7 := by rw [HQ7.out]; exact bs_append _ _
        have hsz1 : (bs (la.take k)).size = k := by rw [bs_size]; exact HLT.out
        have hsz2 : (bs lb).size = lb.length := bs_size _
        have hsz7 : (bs q7).size = q7.length := bs_size _
        have hq7l : q7.length = k + lb.length := by rw [HQ7.out, List.length_append, HLT.out]
        obtain ⟨s1, hs1⟩ : ∃ s, s = bs (la.take k) := ⟨_, rfl⟩
        obtain ⟨s2, hs2⟩ : ∃ s, s = bs lb := ⟨_, rfl⟩
        obtain ⟨s7, hs7⟩ : ∃ s, s = bs q7 := ⟨_, rfl⟩
        rw [← hs1] at hadd hsz1 k8
        rw [← hs2] at hadd k9 hsz2
        rw [← hs7] at hadd hsz7 ⊢
        obtain ⟨N, hN⟩ : ∃ N, N = q7.length := ⟨_, rfl⟩
        rw [← hN] at hsz7 hq7l
        have hN5 : N ≤ 2000 := by omega
        have HNq := Aside0.mk hq7l
        have HS1 := Aside0.mk hs1
        have HS2 := Aside0.mk hs2
        have HS7 := Aside0.mk hs7
        have HNN := Aside0.mk hN
        have hlen1 : ¬ (9223372036854775807 < k + lb.length) := by omega
        clear hs1 hs2 hs7 hN hq7l
        go_wp2
        have H9d := Aside0.mk (show One w0 w9.drew b row9 _ from H9.out.below (below_drew (Below.refl _ _)))
        have hbl : (DM.mk q7 q7.length 5000 (-1)).bs = q7 := rfl
        have hkI : ((N + 1 : Nat) : Int) = (N : Int) + 1 := by omega
        have HKI := Aside0.mk hkI
        have HBL := Aside0.mk hbl
        clear hbl hkI
        have hwk : IntKind.i64.wrap ((N : Int) + 1) = (N : Int) + 1 := by rw [IntKind.wrap_i64]; omega
        have hwk2 : wrap64 ((N : Int) + 1) = (N : Int) + 1 := by unfold wrap64; omega
        refine start_ (n := 33) (S := fun w' => (convert 23 9 (.slice A k ca)).run Tryd.prog w' = .ok (.string s1) w' ∧ (convert 23 9 (.slice B lb.length cb)).run Tryd.prog w' = .ok (.string s2) w') (ds := [19, 20, 29]) #[false, false, false, false, false, false, false, false, false, false, false, false, false, false, false, false, false, false, false, false, false, false, false, false, false, false, false, false, false, false, false, false, false] (by kernel_rfl) rfl rfl ⟨(by rw [HS1.out]; exact conv_string (c := ca) (C_take_n (Kd.C_below HA.out (H9d.out.bel)) k hk)), (by rw [HS2.out]; exact conv_string (c := cb) (Kd.C_below HB.out (H9d.out.bel)))⟩ (fun hHeld => ?_)
        refine with_tabW (T := (true, [([], []), ([0], [0]), ([1], [1]), ([2], [2]), ([3, 2], [2, 3]), ([2, 4], [2, 4]), ([5, 2], [5]), ([6], [6]), ([6], [6]), ([6], [6]), ([8, 9, 6], [6, 8, 9]), ([10, 6], [6, 10]), ([6], [6]), ([12, 6], [6, 12]), ([11, 13, 6], [6, 11, 13]), ([7, 14, 6], [6, 7, 14]), ([6, 15], [6, 15]), ([16, 6], [16]), ([17], [17]), ([18, 17, 17], [17, 18]), ([19, 17], [17, 19]), ([17], [17]), ([20, 21, 17], [17, 20, 21]), ([17, 22], [17, 22]), ([23, 19], [23]), ([24], [24]), ([24], [24]), ([26, 24], [24, 26]), ([27, 24], [24, 27]), ([25, 28, 24, 24], [24, 25, 28]), ([29, 24], [24, 29]), ([24, 30], [24, 30]), ([31, 29, 0, 1, 2, 3, 4, 5, 6, 7, 8, 9, 10, 11, 12, 13, 14, 15, 16, 17, 18, 19, 20, 21, 22, 23, 24, 25, 26, 27, 28, 29, 30, 31], [31])])) (B := [0, 1, 3, 7, 15, 31, 63, 127, 127, 127, 895, 1919, 127, 4223, 16255, 32767, 65535, 131071, 262143, 524287, 1048575, 262143, 4194303, 8388607, 16777215, 33554431, 33554431, 100663295, 234881023, 536870911, 1073741823, 2147483647, 4294967295]) (by kernel_rfl) (by kernel_rfl) (fun HT_ HW_ => ?_)
        refine pure_ (i := 0) (N := some 65) (v := ?_) (a' := ?_) #[true, false, false, false, false, false, false, false, false, false, false, false, false, false, false, false, false, false, false, false, false, false, false, false, false, false, false, false, false, false, false, false, false] rfl rfl (any_of HT_.out (by kernel_rfl)) (fun _ _ _ h => h) (Or.inl ⟨by rfl, ?_⟩) ?_ ?_
        rotate_left
        · intro w'
          go_simp
          with_reducible rfl
        rotate_left
        · simp only [Act.put, List.setIfInBounds_toArray, List.set_cons_zero, List.set_cons_succ, i64_w, i32_w]
          rfl
        refine pure_ (i := 1) (N := some 66) (v := ?_) (a' := ?_) #[true, true, false, false, false, false, false, false, false, false, false, false, false, false, false, false, false, false, false, false, false, false, false, false, false, false, false, false, false, false, false, false, false] rfl rfl (any_of HT_.out (by kernel_rfl)) (fun _ _ _ h => h) (Or.inl ⟨by rfl, ?_⟩) ?_ ?_
        rotate_left
        · intro w'
          go_simp
          with_reducible rfl
        rotate_left
        · simp only [Act.put, List.setIfInBounds_toArray, List.set_cons_zero, List.set_cons_succ, i64_w, i32_w]
          rfl
        refine pure_ (i := 2) (N := some 67) (v := ?_) (a' := ?_) #[true, true, true, false, false, false, false, false, false, false, false, false, false, false, false, false, false, false, false, false, false, false, false, false, false, false, false, false, false, false, false, false, false] rfl rfl (any_of HT_.out (by kernel_rfl)) (fun _ _ _ h => h) (Or.inl ⟨by rfl, ?_⟩) ?_ ?_
        rotate_left
        · intro w'
          go_simp
          with_reducible rfl
        rotate_left
        · simp only [Act.put, List.setIfInBounds_toArray, List.set_cons_zero, List.set_cons_succ, i64_w, i32_w]
          rfl
        refine pure_ (i := 3) (N := some 68) (v := ?_) (a' := ?_) #[true, true, true, true, false, false, false, false, false, false, false, false, false, false, false, false, false, false, false, false, false, false, false, false, false, false, false, false, false, false, false, false, false] rfl rfl (any_of HT_.out (by kernel_rfl)) (fun _ _ _ h => h) (Or.inl ⟨by rfl, ?_⟩) ?_ ?_
        rotate_left
        · intro w'
          go_simp
          with_reducible rfl
        rotate_left
        · simp only [Act.put, List.setIfInBounds_toArray, List.set_cons_zero, List.set_cons_succ, i64_w, i32_w]
          rfl
        refine pure_ (i := 4) (N := some 69) (v := ?_) (a' := ?_) #[true, true, true, true, true, false, false, false, false, false, false, false, false, false, false, false, false, false, false, false, false, false, false, false, false, false, false, false, false, false, false, false, false] rfl rfl (any_of HT_.out (by kernel_rfl)) (fun _ _ _ h => h) (Or.inl ⟨by rfl, ?_⟩) ?_ ?_
        rotate_left
        · intro w'
          go_simp
          with_reducible rfl
        rotate_left
        · simp only [Act.put, List.setIfInBounds_toArray, List.set_cons_zero, List.set_cons_succ, i64_w, i32_w]
          rfl
        refine pure_ (i := 5) (N := some 70) (v := ?_) (a' := ?_) #[true, true, true, true, true, true, false, false, false, false, false, false, false, false, false, false, false, false, false, false, false, false, false, false, false, false, false, false, false, false, false, false, false] rfl rfl (any_of HT_.out (by kernel_rfl)) (fun _ _ _ h => h) (Or.inl ⟨by rfl, ?_⟩) ?_ ?_
        rotate_left
        · intro w'
          go_simp
          with_reducible rfl
        rotate_left
        · simp only [Act.put, List.setIfInBounds_toArray, List.set_cons_zero, List.set_cons_succ, i64_w, i32_w]
          rfl
        refine pure_ (i := 6) (N := some 71) (v := ?_) (a' := ?_) #[true, true, true, true, true, true, true, false, false, false, false, false, false, false, false, false, false, false, false, false, false, false, false, false, false, false, false, false, false, false, false, false, false] rfl rfl (any_of HT_.out (by kernel_rfl)) (fun _ _ _ h => h) (Or.inl ⟨by rfl, ?_⟩) ?_ ?_
        rotate_left
        · intro w'
          go_simp
          with_reducible rfl
        rotate_left
        · simp only [Act.put, List.setIfInBounds_toArray, List.set_cons_zero, List.set_cons_succ, i64_w, i32_w]
          rfl
        refine pure_ (i := 7) (N := some 72) (v := ?_) (a' := ?_) #[true, true, true, true, true, true, true, true, false, false, false, false, false, false, false, false, false, false, false, false, false, false, false, false, false, false, false, false, false, false, false, false, false] rfl rfl (any_of HT_.out (by kernel_rfl)) (fun _ _ _ h => h) (Or.inl ⟨by rfl, ?_⟩) ?_ ?_
        rotate_left
        · intro w'
          go_simp
          with_reducible rfl
        rotate_left
        · simp only [Act.put, List.setIfInBounds_toArray, List.set_cons_zero, List.set_cons_succ, i64_w, i32_w]
          rfl
        refine pure_ (i := 8) (N := some 73) (v := ?_) (a' := ?_) #[true, true, true, true, true, true, true, true, true, false, false, false, false, false, false, false, false, false, false, false, false, false, false, false, false, false, false, false, false, false, false, false, false] rfl rfl (any_of HT_.out (by kernel_rfl)) (fun _ _ _ h => h) (Or.inl ⟨by rfl, ?_⟩) ?_ ?_
        rotate_left
        · intro w'
          go_simp
          with_reducible rfl
        rotate_left
        · simp only [Act.put, List.setIfInBounds_toArray, List.set_cons_zero, List.set_cons_succ, i64_w, i32_w]
          rfl
        refine pure_ (i := 9) (N := some 74) (v := ?_) (a' := ?_) #[true, true, true, true, true, true, true, true, true, true, false, false, false, false, false, false, false, false, false, false, false, false, false, false, false, false, false, false, false, false, false, false, false] rfl rfl (any_of HT_.out (by kernel_rfl)) (fun _ _ _ h => h) (Or.inl ⟨by rfl, ?_⟩) ?_ ?_
        rotate_left
        · intro w'
          go_simp
          with_reducible rfl
        rotate_left
        · simp only [Act.put, List.setIfInBounds_toArray, List.set_cons_zero, List.set_cons_succ, i64_w, i32_w]
          rfl
        refine pure_ (i := 10) (N := some 75) (v := ?_) (a' := ?_) #[true, true, true, true, true, true, true, true, true, true, true, false, false, false, false, false, false, false, false, false, false, false, false, false, false, false, false, false, false, false, false, false, false] rfl rfl (any_of HT_.out (by kernel_rfl)) (fun _ _ _ h => h) (Or.inl ⟨by rfl, ?_⟩) ?_ ?_
        rotate_left
        · intro w'
          go_simp
          with_reducible rfl
        rotate_left
        · simp only [Act.put, List.setIfInBounds_toArray, List.set_cons_zero, List.set_cons_succ, i64_w, i32_w]
          rfl
        refine pure_ (i := 12) (N := some 77) (v := ?_) (a' := ?_) #[true, true, true, true, true, true, true, true, true, true, true, false, true, false, false, false, false, false, false, false, false, false, false, false, false, false, false, false, false, false, false, false, false] rfl rfl (any_of HT_.out (by kernel_rfl)) (fun _ _ _ h => h) (Or.inl ⟨by rfl, ?_⟩) ?_ ?_
        rotate_left
        · intro w'
          go_simp
          with_reducible rfl
        rotate_left
        · simp only [Act.put, List.setIfInBounds_toArray, List.set_cons_zero, List.set_cons_succ, i64_w, i32_w]
          rfl
        refine take_ (i := 11) (N := some 76) (v := ?_) (a' := ?_) #[true, true, true, true, true, true, true, true, true, true, true, true, true, false, false, false, false, false, false, false, false, false, false, false, false, false, false, false, false, false, false, false, false] rfl rfl (take_ofW HT_.out HW_.out (by kernel_rfl)) (fun _ _ _ h => h) (Or.inl ⟨by rfl, ?_⟩) hHeld ?_ ?_
        rotate_left
        · rintro w' ⟨s0, s1⟩
          go_simp
          with_reducible rfl
        rotate_left
        · simp only [Act.put, List.setIfInBounds_toArray, List.set_cons_zero, List.set_cons_succ, i64_w, i32_w]
          rfl
        refine take_ (i := 13) (N := some 78) (v := ?_) (a' := ?_) #[true, true, true, true, true, true, true, true, true, true, true, true, true, true, false, false, false, false, false, false, false, false, false, false, false, false, false, false, false, false, false, false, false] rfl rfl (take_ofW HT_.out HW_.out (by kernel_rfl)) (fun _ _ _ h => h) (Or.inl ⟨by rfl, ?_⟩) hHeld ?_ ?_
        rotate_left
        · rintro w' ⟨s0, s1⟩
          go_simp
          with_reducible rfl
        rotate_left
        · simp only [Act.put, List.setIfInBounds_toArray, List.set_cons_zero, List.set_cons_succ, i64_w, i32_w]
          rfl
        refine pure_ (i := 14) (N := some 79) (v := ?_) (a' := ?_) #[true, true, true, true, true, true, true, true, true, true, true, true, true, true, true, false, false, false, false, false, false, false, false, false, false, false, false, false, false, false, false, false, false] rfl rfl (any_of HT_.out (by kernel_rfl)) (fun _ _ _ h => h) (Or.inl ⟨by rfl, ?_⟩) ?_ ?_
        rotate_left
        · intro w'
          go_simp
          with_reducible rfl
        rotate_left
        · simp only [Act.put, List.setIfInBounds_toArray, List.set_cons_zero, List.set_cons_succ, i64_w, i32_w]
          rfl
        refine pure_ (i := 15) (N := some 80) (v := ?_) (a' := ?_) #[true, true, true, true, true, true, true, true, true, true, true, true, true, true, true, true, false, false, false, false, false, false, false, false, false, false, false, false, false, false, false, false, false] rfl rfl (any_of HT_.out (by kernel_rfl)) (fun _ _ _ h => h) (Or.inl ⟨by rfl, ?_⟩) ?_ ?_
        rotate_left
        · intro w'
          go_simp
          with_reducible rfl
        rotate_left
        · simp only [Act.put, List.setIfInBounds_toArray, List.set_cons_zero, List.set_cons_succ, i64_w, i32_w]
          rfl
        refine pure_ (i := 16) (N := some 81) (v := ?_) (a' := ?_) #[true, true, true, true, true, true, true, true, true, true, true, true, true, true, true, true, true, false, false, false, false, false, false, false, false, false, false, false, false, false, false, false, false] rfl rfl (any_of HT_.out (by kernel_rfl)) (fun _ _ _ h => h) (Or.inl ⟨by rfl, ?_⟩) ?_ ?_
        rotate_left
        · intro w'
          go_simp
          with_reducible rfl
        rotate_left
        · simp only [Act.put, List.setIfInBounds_toArray, List.set_cons_zero, List.set_cons_succ, i64_w, i32_w]
          rfl
        refine pure_ (i := 17) (N := some 82) (v := ?_) (a' := ?_) #[true, true, true, true, true, true, true, true, true, true, true, true, true, true, true, true, true, true, false, false, false, false, false, false, false, false, false, false, false, false, false, false, false] rfl rfl (any_of HT_.out (by kernel_rfl)) (fun _ _ _ h => h) (Or.inl ⟨by rfl, ?_⟩) ?_ ?_
        rotate_left
        · intro w'
          go_simp
          with_reducible rfl
        rotate_left
        · simp only [Act.put, List.setIfInBounds_toArray, List.set_cons_zero, List.set_cons_succ, i64_w, i32_w]
          rfl
        refine pure_ (i := 18) (N := some 83) (v := ?_) (a' := ?_) #[true, true, true, true, true, true, true, true, true, true, true, true, true, true, true, true, true, true, true, false, false, false, false, false, false, false, false, false, false, false, false, false, false] rfl rfl (any_of HT_.out (by kernel_rfl)) (fun _ _ _ h => h) (Or.inl ⟨by rfl, ?_⟩) ?_ ?_
        rotate_left
        · intro w'
          go_simp
          with_reducible rfl
        rotate_left
        · simp only [Act.put, List.setIfInBounds_toArray, List.set_cons_zero, List.set_cons_succ, i64_w, i32_w]
          rfl
        refine pure_ (i := 21) (N := some 86) (v := ?_) (a' := ?_) #[true, true, true, true, true, true, true, true, true, true, true, true, true, true, true, true, true, true, true, false, false, true, false, false, false, false, false, false, false, false, false, false, false] rfl rfl (any_of HT_.out (by kernel_rfl)) (fun _ _ _ h => h) (Or.inl ⟨by rfl, ?_⟩) ?_ ?_
        rotate_left
        · intro w'
          go_simp
          with_reducible rfl
        rotate_left
        · simp only [Act.put, List.setIfInBounds_toArray, List.set_cons_zero, List.set_cons_succ, i64_w, i32_w]
          rfl
        refine last_ (i := 19) (N := some 84) #[true, true, true, true, true, true, true, true, true, true, true, true, true, true, true, true, true, true, true, true, false, true, false, false, false, false, false, false, false, false, false, false, false] rfl rfl (one_of HT_.out (by kernel_rfl)) (by decide) (fun K hK => ?_)
        refine goes_ Tryd.func29 (by kernel_rfl) rfl #[.pointer (some ⟨b, 0, none⟩)] (by rfl) rfl rfl (by simp only [List.map_toArray, List.map_cons, List.map_nil]; rfl) ?_
        with_reducible refine (m_read_eq HBL.out H9d.out.dd).mono ?_
        rintro e w10 ⟨A9, c9, rfl, hC9, _, hb9⟩
        refine ⟨_, rfl, ?_⟩
        have k10 : (convert 23 9 (.slice A9 q7.length c9)).run Tryd.prog w10 = .ok (.string s7) w10 := by rw [HS7.out]; exact conv_string (c := c9) hC9
        have H10 := Aside0.mk (H9d.out.below hb9)
        clear hb9 hC9
        refine hK.out _ _ ?_
        clear hK K
        refine norm_ (a' := ?_) ?_ ?_
        rotate_left
        · show Act.put _ (some 84) _ = _
          simp only [Act.put, List.setIfInBounds_toArray, List.set_cons_zero, List.set_cons_succ, i64_w, i32_w]
          rfl
        refine last_ (i := 20) (N := some 85) #[true, true, true, true, true, true, true, true, true, true, true, true, true, true, true, true, true, true, true, true, true, true, false, false, false, false, false, false, false, false, false, false, false] rfl rfl (one_of HT_.out (by kernel_rfl)) (by decide) (fun K hK => ?_)
        refine value_ (w1 := ?_) (v := ?_) (by rfl) rfl ?_ ?_
        rotate_left 2
        · go_simp
          constructor
          · rfl
          · rfl
        refine hK.out _ _ ?_
        clear hK K
        refine norm_ (a' := ?_) ?_ ?_
        rotate_left
        · show Act.put _ (some 85) _ = _
          simp only [Act.put, List.setIfInBounds_toArray, List.set_cons_zero, List.set_cons_succ, i64_w, i32_w]
          rfl
        refine pure_ (i := 22) (N := some 87) (v := ?_) (a' := ?_) #[true, true, true, true, true, true, true, true, true, true, true, true, true, true, true, true, true, true, true, true, true, true, true, false, false, false, false, false, false, false, false, false, false] rfl rfl (any_of HT_.out (by kernel_rfl)) (fun _ _ _ h => h) (Or.inl ⟨by rfl, ?_⟩) ?_ ?_
        rotate_left
        · intro w'
          go_simp
          with_reducible rfl
        rotate_left
        · simp only [Act.put, List.setIfInBounds_toArray, List.set_cons_zero, List.set_cons_succ, i64_w, i32_w]
          rfl
        refine pure_ (i := 23) (N := some 88) (v := ?_) (a' := ?_) #[true, true, true, true, true, true, true, true, true, true, true, true, true, true, true, true, true, true, true, true, true, true, true, true, false, false, false, false, false, false, false, false, false] rfl rfl (any_of HT_.out (by kernel_rfl)) (fun _ _ _ h => h) (Or.inl ⟨by rfl, ?_⟩) ?_ ?_
        rotate_left
        · intro w'
          go_simp
          with_reducible rfl
        rotate_left
        · simp only [Act.put, List.setIfInBounds_toArray, List.set_cons_zero, List.set_cons_succ, i64_w, i32_w]
          rfl
        refine pure_ (i := 24) (N := some 89) (v := ?_) (a' := ?_) #[true, true, true, true, true, true, true, true, true, true, true, true, true, true, true, true, true, true, true, true, true, true, true, true, true, false, false, false, false, false, false, false, false] rfl rfl (any_of HT_.out (by kernel_rfl)) (fun _ _ _ h => h) (Or.inl ⟨by rfl, ?_⟩) ?_ ?_
        rotate_left
        · intro w'
          go_simp
          with_reducible rfl
        rotate_left
        · simp only [Act.put, List.setIfInBounds_toArray, List.set_cons_zero, List.set_cons_succ, i64_w, i32_w]
          rfl
        refine pure_ (i := 25) (N := some 90) (v := ?_) (a' := ?_) #[true, true, true, true, true, true, true, true, true, true, true, true, true, true, true, true, true, true, true, true, true, true, true, true, true, true, false, false, false, false, false, false, false] rfl rfl (any_of HT_.out (by kernel_rfl)) (fun _ _ _ h => h) (Or.inl ⟨by rfl, ?_⟩) ?_ ?_
        rotate_left
        · intro w'
          go_simp
          with_reducible rfl
        rotate_left
        · simp only [Act.put, List.setIfInBounds_toArray, List.set_cons_zero, List.set_cons_succ, i64_w, i32_w]
          rfl
        refine pure_ (i := 26) (N := some 91) (v := ?_) (a' := ?_) #[true, true, true, true, true, true, true, true, true, true, true, true, true, true, true, true, true, true, true, true, true, true, true, true, true, true, true, false, false, false, false, false, false] rfl rfl (any_of HT_.out (by kernel_rfl)) (fun _ _ _ h => h) (Or.inl ⟨by rfl, ?_⟩) ?_ ?_
        rotate_left
        · intro w'
          go_simp
          with_reducible rfl
        rotate_left
        · simp only [Act.put, List.setIfInBounds_toArray, List.set_cons_zero, List.set_cons_succ, i64_w, i32_w]
          rfl
        refine pure_ (i := 27) (N := some 92) (v := ?_) (a' := ?_) #[true, true, true, true, true, true, true, true, true, true, true, true, true, true, true, true, true, true, true, true, true, true, true, true, true, true, true, true, false, false, false, false, false] rfl rfl (any_of HT_.out (by kernel_rfl)) (fun _ _ _ h => h) (Or.inl ⟨by rfl, ?_⟩) ?_ ?_
        rotate_left
        · intro w'
          go_simp
          with_reducible rfl
        rotate_left
        · simp only [Act.put, List.setIfInBounds_toArray, List.set_cons_zero, List.set_cons_succ, i64_w, i32_w]
          rfl
        refine pure_ (i := 28) (N := some 93) (v := ?_) (a' := ?_) #[true, true, true, true, true, true, true, true, true, true, true, true, true, true, true, true, true, true, true, true, true, true, true, true, true, true, true, true, true, false, false, false, false] rfl rfl (any_of HT_.out (by kernel_rfl)) (fun _ _ _ h => h) (Or.inl ⟨by rfl, ?_⟩) ?_ ?_
        rotate_left
        · intro w'
          go_simp
          with_reducible rfl
        rotate_left
        · simp only [Act.put, List.setIfInBounds_toArray, List.set_cons_zero, List.set_cons_succ, i64_w, i32_w]
          rfl
        refine last_ (i := 29) (N := some 94) #[true, true, true, true, true, true, true, true, true, true, true, true, true, true, true, true, true, true, true, true, true, true, true, true, true, true, true, true, true, true, false, false, false] rfl rfl (one_of HT_.out (by kernel_rfl)) (by decide) (fun K hK => ?_)
        refine goes_ Tryd.func33 (by kernel_rfl) rfl #[.pointer (some ⟨b, 0, none⟩), .int .i64 ((N : Int) + 1)] (by rfl) rfl rfl (by simp only [List.map_toArray, List.map_cons, List.map_nil]; rfl) ?_
        with_reducible refine ((HKI.out ▸ m_cut_over H10.out (N + 1) (by rw [HNN.out]; omega))).mono ?_
        rintro e w11 ⟨rfl, row11, h11⟩
        refine ⟨_, rfl, ?_⟩
        refine hK.out _ _ ?_
        clear hK K
        refine norm_ (a' := ?_) ?_ ?_
        rotate_left
        · show Act.put _ (some 94) _ = _
          simp only [Act.put, List.setIfInBounds_toArray, List.set_cons_zero, List.set_cons_succ, i64_w, i32_w]
          rfl
        refine pure_ (i := 30) (N := some 95) (v := ?_) (a' := ?_) #[true, true, true, true, true, true, true, true, true, true, true, true, true, true, true, true, true, true, true, true, true, true, true, true, true, true, true, true, true, true, true, false, false] rfl rfl (any_of HT_.out (by kernel_rfl)) (fun _ _ _ h => h) (Or.inl ⟨by rfl, ?_⟩) ?_ ?_
        rotate_left
        · intro w'
          go_simp
          with_reducible rfl
        rotate_left
        · simp only [Act.put, List.setIfInBounds_toArray, List.set_cons_zero, List.set_cons_succ, i64_w, i32_w]
          rfl
        refine pure_ (i := 31) (N := some 96) (v := ?_) (a' := ?_) #[true, true, true, true, true, true, true, true, true, true, true, true, true, true, true, true, true, true, true, true, true, true, true, true, true, true, true, true, true, true, true, true, false] rfl rfl (any_of HT_.out (by kernel_rfl)) (fun _ _ _ h => h) (Or.inl ⟨by rfl, ?_⟩) ?_ ?_
        rotate_left
        · intro w'
          go_simp
          with_reducible rfl
        rotate_left
        · simp only [Act.put, List.setIfInBounds_toArray, List.set_cons_zero, List.set_cons_succ, i64_w, i32_w]
          rfl
        refine pure_ (i := 32) (N := some 8) (v := ?_) (a' := ?_) #[true, true, true, true, true, true, true, true, true, true, true, true, true, true, true, true, true, true, true, true, true, true, true, true, true, true, true, true, true, true, true, true, true] rfl rfl (any_of HT_.out (by kernel_rfl)) (fun _ _ _ h => h) (Or.inl ⟨by rfl, ?_⟩) ?_ ?_
        rotate_left
        · intro w'
          go_simp
          with_reducible rfl
        rotate_left
        · simp only [Act.put, List.setIfInBounds_toArray, List.set_cons_zero, List.set_cons_succ, i64_w, i32_w]
          rfl
        refine done_ (done_of HT_.out (by kernel_rfl)) ?_
        go_wp2
        go_ret
        exact ⟨rfl, h11.bel⟩
theorem diskCuts_row (A : Option Addr) (ca : Nat) (la : List UInt8) (B : Option Addr) (cb : Nat) (lb : List UInt8) (n : Int) (sync : Bool) (w0 : World) (hA : kb.C w0 A la.length la) (hca : la.length ≤ ca) (_ : True) (hB : kb.C w0 B lb.length lb) (hcb : lb.length ≤ cb) (_ : True) (_ : -9223372036854775808 ≤ n ∧ n ≤ 9223372036854775807) :
    Calls Tryd.prog 6 #[.slice A la.length ca, .slice B lb.length cb, .int .i64 n, .bool sync] w0 fun e w' => e = .returned (.bool true) ∧ Below w0.heap.size w0 w' :=
  diskCuts_walk A ca la B cb lb n sync w0 hA hca hB hcb
end Go.Proofs.YtbbhjceelghadaaDoor.K
end

section
-- from Came
namespace Go.Proofs.YtbbhjceelghadaaDoor.My
open Go Go.RowKit Go.Deep Go.ChangeShapes Go.WideShapes Go.ChangeAt Go.Proofs.YtbbhjceelghadaaDoorW.PrintWords
/-- A value of type t that came in reads as a v of kind d, of which ok holds and which is no heavier than the datum's bulk. -/
def Came {α : Type} (d : Kd α) (t : TypeId) (ok : α → Prop) (wt : α → Nat) : Prop :=
  ∀ {H : Type} (enc : TypeId × Value → H) (w : World) (fuel : Nat) (cs : List Value) (x : DataW H × List MemPlace), DataW.trod enc Tryd.prog w 0 (fun _ => true) true fuel t cs = some x → ∃ v : α, d.K w v cs ∧ ok v ∧ wt v ≤ Rows.uptoBulk x.1
/-- All of a slice's weight. -/
def wtAll {α : Type} (wt : α → Nat) (l : List α) : Nat := (l.map wt).sum
theorem wtAll_cons {α : Type} (wt : α → Nat) (x : α) (l : List α) : wtAll wt (x :: l) = wt x + wtAll wt l := by simp [wtAll]
theorem pick_all {α : Type} [Inhabited α] {n : Nat} {p : Nat → α → Prop} (h : ∀ i, i < n → ∃ x, p i x) : ∃ f : Nat → α, ∀ i, i < n → p i (f i) := by
  classical
  refine ⟨fun i => if h' : i < n then Classical.choose (h i h') else default, fun i hi => ?_⟩
  simp only [dif_pos hi]
  exact Classical.choose_spec (h i hi)
theorem cells_get {w : World} {a : Addr} {n : Nat} {cs : List Value} (h : w.cells? 0 a n = some cs) (i : Nat) (v : Value) (hi : cs[i]? = some v) : w.cell? (a.add i) = some v := by
  obtain ⟨_, hl, hc⟩ := World.cells?_some h
  have hil : i < n := by have := (List.getElem?_eq_some_iff.1 hi).1; omega
  rw [hc i hil]
  exact hi
theorem came_slice {α : Type} [Inhabited α] {d : Kd α} {t e : TypeId} {ok : α → Prop} {wt : α → Nat} (ht : Tryd.prog.underlying t = some (.slice e)) (hc : Tryd.prog.cellsOf e = d.sz) (he : Came d e ok wt) :
    Came (Kd.slice e d) t (fun l => ∀ x ∈ l, ok x) (fun l => wtAll wt l + 1) := by
  intro H enc w fuel cs x h
  rcases open_slice ht h with ⟨rfl, rfl⟩ | ⟨ad, len, cap, m, n, D, Pl, rfl, _, hl, hmax, hm, rfl, hel⟩
  · exact ⟨[], ⟨none, 0, rfl, Nat.le_refl _, ⟨rfl, by simp, fun h => absurd h (Nat.lt_irrefl 0)⟩⟩, (by simp), by simp [wtAll, Rows.uptoBulk]⟩
  · have hlm : len ≤ m := by rw [hm]; simp; exact hl
    have one : ∀ i, i < len → ∃ v : α, (∃ cs', w.cells? 0 (ad.add (i * Tryd.prog.cellsOf e)) (Tryd.prog.cellsOf e) = some cs' ∧ d.K w v cs') ∧ ok v ∧ wt v ≤ Rows.uptoBulk (D i) := by
      intro i hi
      obtain ⟨cs', h1, h2⟩ := hel i (by omega)
      obtain ⟨v, h3, h4, h5⟩ := he enc w n cs' _ h2
      exact ⟨v, ⟨cs', h1, h3⟩, h4, h5⟩
    obtain ⟨L, hL⟩ := pick_all one
    have hlen : ((List.range len).map L).length = len := by simp
    refine ⟨(List.range len).map L, ⟨some ad, cap, by rw [hlen], by rw [hlen]; exact hl, ?_⟩, ?_, ?_⟩
    · rw [hlen]
      refine ⟨hlen, by unfold maxLen at hmax; omega, fun _ => ⟨ad, rfl, fun j p hj => ?_⟩⟩
      have hjl : j < len := by have := (List.getElem?_eq_some_iff.1 hj).1; simpa using this
      have hp : p = L j := by
        rw [List.getElem?_map, List.getElem?_range hjl] at hj
        simp only [Option.map_some, Option.some.injEq] at hj
        exact hj.symm
      subst hp
      obtain ⟨⟨cs', h1, h2⟩, _, _⟩ := hL j hjl
      rw [hc] at h1
      refine ⟨cs', d.K_len h2, h2, fun i u hi => ?_⟩
      have := cells_get h1 i u hi
      rwa [Go.Deep.add_add] at this
    · intro y hy
      obtain ⟨i, hi, rfl⟩ := List.mem_map.1 hy
      exact (hL i (List.mem_range.1 hi)).2.1
    · have key : ∀ is : List Nat, (∀ i ∈ is, i < len) → wtAll wt (is.map L) ≤ Rows.uptoBulkAll (is.map D) := by
        intro is
        induction is with
        | nil => intro _; simp [wtAll, Rows.uptoBulkAll]
        | cons i is ih =>
          intro hi
          have h3 := ih (fun k hk => hi k (List.mem_cons_of_mem _ hk))
          have h4 := (hL i (hi i List.mem_cons_self)).2.2
          rw [List.map_cons, List.map_cons, wtAll_cons]
          simp only [Rows.uptoBulkAll]
          omega
      have := key (List.range len) (fun i hi => List.mem_range.1 hi)
      simp only [Rows.uptoBulk]
      omega
/-- What a slice argument is. -/
theorem came_C {α : Type} {d : Kd α} {t e : TypeId} {ok : List α → Prop} {wt : List α → Nat} (h : Came (Kd.slice e d) t ok wt) {H : Type} (enc : TypeId × Value → H) {w : World} {fuel : Nat} {v : Value} {x : DataW H × List MemPlace} (ht : DataW.trod enc Tryd.prog w 0 (fun _ => true) true fuel t v.cells.toList = some x) :
    ∃ (A : Option Addr) (c : Nat) (l : List α), v.cells.toList = [.slice A l.length c] ∧ l.length ≤ c ∧ d.C w A l.length l ∧ ok l ∧ wt l ≤ Rows.uptoBulk x.1 := by
  obtain ⟨l, ⟨A, c, h1, h2, h3⟩, h4, h5⟩ := h enc w fuel _ x ht
  exact ⟨A, c, l, h1, h2, h3, h4, h5⟩
end Go.Proofs.YtbbhjceelghadaaDoor.My
end

section
-- from DiskI
namespace Go.Proofs.YtbbhjceelghadaaDoor.My
open Go Go.RowKit Go.Deep Go.ChangeShapes Go.WideShapes Go.ChangeAt Go.Proofs.YtbbhjceelghadaaDoorW.PrintWords
/-- An Op: its kind, its bytes, its number. -/
structure SOp where
  k : Int
  b : List UInt8
  n : Int
instance : Inhabited SOp := ⟨⟨0, [], 0⟩⟩
def wtB (_ : UInt8) : Nat := 1
theorem wtB_all (l : List UInt8) : wtAll wtB l = l.length := by
  induction l with
  | nil => rfl
  | cons x l ih => rw [wtAll_cons, ih, List.length_cons]; unfold wtB; omega
theorem came_byte : Came kb 5 (fun _ => True) wtB := by
  intro H enc w fuel cs x h
  obtain ⟨n, rfl, hx, hw⟩ := DataW.trod_int Tryd.underlying5 h
  refine ⟨UInt8.ofNat n.toNat, ?_, trivial, by rw [hx]; simp [Rows.uptoBulk, wtB]⟩
  show [Value.int .u8 n] = [Value.int .u8 _]
  rw [byte_back hw]
theorem came_kbytes : Came (Kd.slice 5 kb) 23 (fun _ => True) (fun l => l.length + 1) := by
  intro H enc w fuel cs x h
  obtain ⟨v, h1, _, h3⟩ := came_slice (wt := wtB) Tryd.underlying23 (by kernel_rfl) came_byte enc w fuel cs x h
  exact ⟨v, h1, trivial, by have h3 : wtAll wtB v + 1 ≤ Rows.uptoBulk x.1 := h3; rw [wtB_all] at h3; exact h3⟩
end Go.Proofs.YtbbhjceelghadaaDoor.My
end
