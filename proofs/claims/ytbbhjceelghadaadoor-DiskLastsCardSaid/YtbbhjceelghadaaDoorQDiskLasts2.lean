/- Parts of the proof, one behind the other: Base, Row, Card, Order, BufG, DiskG, DiskH, DiskW, DiskX, DiskY, DiskZ, DiskF, BytesC, DiskB, DiskC, DiskN, DiskO, DiskQ, DiskR, DiskM, DiskK, DiskD, Came, CameS, DiskI, Region, DiskE, DiskU, DiskV. -/
import Derived.Test.YtbbhjceelghadaaDoorQDiskLasts1
import Derived.Test.YtbbhjceelghadaaDoorProg
import Derived.WalkSpells
import Derived.WalkLawsBesides
import Derived.RegionTactic
import Derived.ChangeAlike
import Derived.Lib.Hide
import Derived.Lib.SlBytesConst
import Derived.ProofKit
import Derived.OpenShut
import Derived.ShutString
import Derived.ChangeOld
import Derived.SizedLaws
import Derived.ChangeSlices
import Derived.Test.YtbbhjceelghadaaDoorCards
import Derived.Test.YtbbhjceelghadaaDoorTie
import Derived.LaidMore
import Derived.Stop.Joined
import Derived.Deep.DeepHandedRow
import Derived.Test.YtbbhjceelghadaaDoorRows
import Derived.JoinedCond
import Derived.Shelf.LaysM
import Derived.Shelf.Bytes.Len
import Derived.Shelf.Bytes.TryGrow
import Derived.Shelf.Bytes.GrowSliceCatch
import Derived.Shelf.Bytes.GrowSlice
import Derived.Shelf.Bytes.LenAt
import Derived.Shelf.Bytes.TryGrowAt
import Derived.Lib.BufferGrow
import Derived.Lib.BufferWrite
import Derived.Laws.CopyRow
import Derived.Lib.BufferSrc
import Derived.Lib.SliceRun
import Derived.Deep.Slices
import Derived.ChangeSame
import Derived.Deep.Strs
set_option linter.unusedVariables false
set_option linter.unusedSimpArgs false
section
-- from Base
namespace Go.Proofs.YtbbhjceelghadaaDoor.My
open Go Go.RowKit Go.Proofs.YtbbhjceelghadaaDoorW.PrintWords
/-- A byte in a cell. -/
def kb : Kd UInt8 := Kd.scalar (fun b => Value.int .u8 (b.toNat : Int)) (fun _ => rfl)
theorem C_at {w : World} {A : Option Addr} {n : Nat} {l : List UInt8} (h : kb.C w A n l) (i : Nat) (hi : i < n) : ∃ ad, A = some ad ∧ w.cell? (ad.add i) = some (.int .u8 (l.getD i 0).toNat) := by
  obtain ⟨ad, c, e, hl, hK, hc⟩ := Kd.C_get h 0 (i : Int) (by omega) (by omega)
  have hK' : c = [.int .u8 (l.getD i 0).toNat] := hK
  subst hK'
  have := hc 0 _ rfl
  simp only [Int.toNat_natCast, Nat.add_zero] at this
  rw [show kb.sz = 1 from rfl, Nat.mul_one] at this
  exact ⟨ad, e, this⟩
/-- A slice of slices of bytes: its element i. -/
theorem CC_at {w : World} {e : Nat} {A : Option Addr} {n : Nat} {l : List (List UInt8)} (h : (Kd.slice e kb).C w A n l) (i : Nat) (hi : i < n) :
    ∃ ad A' c', A = some ad ∧ w.cell? (ad.add i) = some (.slice A' (l.getD i []).length c') ∧ (l.getD i []).length ≤ c' ∧ kb.C w A' (l.getD i []).length (l.getD i []) := by
  obtain ⟨ad, c, e, hl, hK, hc⟩ := Kd.C_get h [] (i : Int) (by omega) (by omega)
  obtain ⟨A', c', rfl, h1, h2⟩ := hK
  have := hc 0 _ rfl
  simp only [Int.toNat_natCast, Nat.add_zero] at this h1 h2
  rw [show (Kd.slice _ kb).sz = 1 from rfl, Nat.mul_one] at this
  exact ⟨ad, A', c', e, this, h1, h2⟩
theorem take_succ_getD {α : Type} (d : α) (l : List α) (k : Nat) (h : k < l.length) : l.take (k + 1) = l.take k ++ [l.getD k d] := by
  rw [List.take_succ_eq_append_getElem h, List.getD_eq_getElem?_getD, List.getElem?_eq_getElem h]; rfl
/-- A new row of bytes. -/
theorem C_new {W : World} {b e : Nat} {cells : Array Value} {fz : Nat × Nat} {l : List UInt8} {n : Nat} (hb : b = W.heap.size) (hn : n = l.length) (hm : l.length ≤ 9223372036854775807) (hc : cells.toList = l.map fun x => Value.int .u8 (x.toNat : Int)) :
    kb.C (W.alloc (.cells cells e fz)) (some ⟨b, 0, none⟩) n l := by
  subst hb; subst hn
  refine ⟨rfl, hm, fun _ => ⟨_, rfl, fun j p hj => ⟨[.int .u8 (p.toNat : Int)], rfl, rfl, fun i u hi => ?_⟩⟩⟩
  have hi0 : i = 0 := by
    rcases i with _ | i
    · rfl
    · simp at hi
  subst hi0
  have hu : u = .int .u8 (p.toNat : Int) := by simpa using hi.symm
  subst hu
  have e1 : cells[j]? = some (.int .u8 (p.toNat : Int)) := by rw [← Array.getElem?_toList, hc, List.getElem?_map, hj]; rfl
  rw [add_plain, show kb.sz = 1 from rfl, Nat.mul_one, Nat.add_zero]
  show (match (W.heap.push _)[W.heap.size]? with | some (.cells c _ _) => _ | _ => _) = _
  simp [e1]
/-- The cells of a slice of slices of bytes. -/
def Cs (W : World) (cs : List Value) (ls : List (List UInt8)) : Prop :=
  cs.length = ls.length ∧ ∀ (i : Nat) (l : List UInt8), ls[i]? = some l → ∃ A c, cs[i]? = some (.slice A l.length c) ∧ l.length ≤ c ∧ kb.C W A l.length l
theorem Cs.nil (W : World) : Cs W [] [] := ⟨rfl, fun i l h => by simp at h⟩
theorem Cs.cons {W : World} {cs : List Value} {ls : List (List UInt8)} {A : Option Addr} {c n : Nat} {l : List UInt8} (h : kb.C W A n l) (hc : n ≤ c) (hs : Cs W cs ls) : Cs W (.slice A n c :: cs) (l :: ls) := by
  have hn := h.1
  subst hn
  refine ⟨by simp [hs.1], fun i x hx => ?_⟩
  rcases i with _ | i
  · obtain rfl : l = x := by simpa using hx
    exact ⟨A, c, rfl, hc, h⟩
  · exact hs.2 i x (by simpa using hx)
theorem heap_new' {W : World} {o : Obj} {b : Nat} (hb : b = W.heap.size) : (W.alloc o).heap[b]? = some o := by
  subst hb
  show (W.heap.push o)[W.heap.size]? = _
  simp
theorem heap_below {W W' : World} {o : Obj} {b : Nat} (hb : Below W.heap.size W W') (h : W.heap[b]? = some o) : W'.heap[b]? = some o := (hb.block b (blk_lt h)).trans h
theorem info_bytes : (Tryd.prog.info? 5).map (·.size) = some 1 := by kernel_rfl
theorem cut_h (A : Option Addr) (n c hi : Nat) (hiI : Int) (e1 : hiI = hi) (h1 : hi ≤ n) (hc : n ≤ c) :
    ∀ W : World, (Instr.slice 23 (.slice A n c) none (some (.int .i64 hiI)) none).run Tryd.prog W = .ok (.slice A hi c) W := by
  subst e1
  intro W
  obtain ⟨i, hi0, hsz⟩ := Option.map_eq_some_iff.1 info_bytes
  have hel : Tryd.prog.elem 23 = 5 := by simp [Program.elem, Tryd.underlying23]
  have hu : Tryd.prog.underlying 23 = some (.slice (Tryd.prog.elem 23)) := by rw [hel]; exact Tryd.underlying23
  rw [run_slice_h W 23 A n c hu .i64 (hi : Int) (Int.natCast_nonneg _) (by omega), hel]
  simp [sizeOf, typeInfo, hi0, hsz, sliced, Result.andThen]
  intro _
  cases A with
  | none => rfl
  | some a => simp [Addr.add]
theorem C_take_n {w : World} {A : Option Addr} {l : List UInt8} (h : kb.C w A l.length l) (n : Nat) (hn : n ≤ l.length) : kb.C w A n (l.take n) := by
  have := Kd.C_take h hn
  rwa [show (l.take n).length = n from by rw [List.length_take]; omega] at this
/-- Bytes as a string. -/
def bs (l : List UInt8) : ByteArray := ⟨l.toArray⟩
theorem bs_toList (l : List UInt8) : (bs l).data.toList = l := by simp [bs]
theorem bs_list (l : List UInt8) : (bs l).toList = l := by rw [ByteArray.toList_eq, bs_toList]
theorem ints_of_kb {w : World} {A : Option Addr} {n : Nat} {l : List UInt8} (h : kb.C w A n l) : ReadsInt w .u8 A n (l.map fun b => (b.toNat : Int)) := by
  refine ⟨by rw [List.length_map]; exact h.1, h.2.1, fun hn => ?_⟩
  obtain ⟨ad, e, _⟩ := h.2.2 hn
  refine ⟨ad, e, fun i hi => ?_⟩
  obtain ⟨ad', e', hc⟩ := C_at h i hi
  obtain rfl : ad = ad' := by rw [e] at e'; injection e'
  rw [hc, List.getD_eq_getElem?_getD, List.getD_eq_getElem?_getD, List.getElem?_map]
  rw [List.getElem?_eq_getElem (by have := h.1; omega)]
  rfl
theorem str_of_nums (l : List UInt8) : strOfNums (l.map fun b => (b.toNat : Int)) = bs l := by
  unfold strOfNums bs
  congr 1
  apply Array.ext'
  simp only [List.map_map]
  conv => rhs; rw [← List.map_id l]
  apply List.map_congr_left
  intro b _
  simp
theorem conv_string {w : World} {A : Option Addr} {n c : Nat} {l : List UInt8} (h : kb.C w A n l) : (convert 23 9 (.slice A n c)).run Tryd.prog w = .ok (.string (bs l)) w := by
  rw [← str_of_nums]
  exact string_of_reads Tryd.underlying23 Tryd.underlying5 Tryd.underlying9 (ints_of_kb h)
theorem below_bytesWorld {w W : World} (h : Below w.heap.size w W) (e : TypeId) (s : ByteArray) : Below w.heap.size w (Lib.bytesWorld W e s) := bytes_below h h.size e s
theorem kb_R {w : World} {base : Nat} {ok : Nat → Prop} {e n c : Nat} {A : Option Addr} {l : List UInt8} (h : kb.R e w base ok (.slice A n c) l) : n = l.length ∧ n ≤ c ∧ kb.C w A l.length l := by
  obtain ⟨A', c', e', h1, h2⟩ := Kd.R_reads h
  injection e' with e1 e2 e3
  subst e1; subst e2; subst e3
  exact ⟨rfl, h1, h2⟩
/-- 'Below', and what it gives the walk: the cells that there were. -/
theorem bcell {W w1 : World} (hb : Below W.heap.size W w1) {a : Addr} {v : Value} (h : W.cell? a = some v) : w1.cell? a = some v := pw_cell_below hb h
/-- All blocks but one are as they were, and no block has come or gone. -/
structure Only (b : Nat) (w w' : World) : Prop where
  os : w'.os = w.os
  tape : w'.tape = w.tape
  output : w'.output = w.output
  size : w'.heap.size = w.heap.size
  block : ∀ k, k ≠ b → w'.heap[k]? = w.heap[k]?
theorem Only.refl (b : Nat) (w : World) : Only b w w := ⟨rfl, rfl, rfl, rfl, fun _ _ => rfl⟩
theorem Only.set {b : Nat} {w w' : World} (h : Only b w w') (o : Nat) (v : Value) : Only b w (w'.setCell ⟨b, o, none⟩ v) :=
  ⟨h.os, h.tape, h.output, by simp [World.setCell, h.size], fun k hk => by rw [Below.heap_setCell _ _ _ _ hk]; exact h.block k hk⟩
theorem Only.drew {b : Nat} {w w' : World} (h : Only b w w') : Only b w w'.drew := ⟨h.os, h.tape, h.output, h.size, h.block⟩
theorem Only.below {b B : Nat} {w0 w w' : World} (h : Only b w w') (hB : B ≤ b) (h0 : Below B w0 w) : Below B w0 w' :=
  ⟨h.os.trans h0.os, h.tape.trans h0.tape, h.output.trans h0.output, by rw [h.size]; exact h0.size, fun k hk => (h.block k (by omega)).trans (h0.block k hk)⟩
end Go.Proofs.YtbbhjceelghadaaDoor.My
end

section
-- from Row
namespace Go.Proofs.YtbbhjceelghadaaDoor.My
open Go Go.RowKit Go.Proofs.YtbbhjceelghadaaDoorW.PrintWords
theorem own : ownKnob Tryd.prog.godebug = none := by kernel_rfl
theorem laidOut : laidOutB Tryd.prog = true := by kernel_rfl
theorem wf_u8 {n : Int} (h : (Lit.int .u8 n).wf = true) : 0 ≤ n ∧ n < 256 := by
  have := bounds_u8 h
  omega
theorem wf_i64 {n : Int} (h : (Lit.int .i64 n).wf = true) : -9223372036854775808 ≤ n ∧ n ≤ 9223372036854775807 := by
  have := bounds_i64 h
  omega
theorem byte_back {n : Int} (h : (Lit.int .u8 n).wf = true) : ((UInt8.ofNat n.toNat).toNat : Int) = n := by
  have := wf_u8 h
  rw [UInt8.toNat_ofNat']
  omega
end Go.Proofs.YtbbhjceelghadaaDoor.My
end

section
-- from Card
namespace Go.Proofs.YtbbhjceelghadaaDoor.My
open Go Go.RowKit
theorem door_met (os : Os) (args : Array Value) : laidMetH Tryd.prog [("bytes.ErrTooLarge", Rows.laid_bytes_ErrTooLarge)] ((World.doorLaid Tryd.prog 400 os).forCall (fun _ _ => 0) ⟨#[], args, []⟩).memory :=
  show laidMetH Tryd.prog [("bytes.ErrTooLarge", Rows.laid_bytes_ErrTooLarge)] _ from laidMetH_of_parts3 (fuel := 8) (laidMet_of_run' 8 (by kernel_rfl) (by kernel_rfl)) (by kernel_rfl) (by kernel_rfl)
theorem door_shaped (os : Os) (args : Array Value) : ((World.doorLaid Tryd.prog 400 os).forCall (fun _ _ => 0) ⟨#[], args, []⟩).Shaped Tryd.prog := World.shaped_of_RefB (by kernel_rfl) (by kernel_rfl)
theorem witness_door {H : Type} {enc : TypeId × Value → H} {os : Os} {f : FuncId} {fn : Func} {s : OpenSpec} (args : Array Value) {x : List (DataW H) × List (DataW H) × List MemPlace}
    (hok : Input.okWideB Tryd.prog ((World.doorLaid Tryd.prog 400 os).forCall (fun _ _ => 0) ⟨#[], args, []⟩) f ⟨#[], args, []⟩ = true)
    (hx : DataW.whole enc Tryd.prog ((World.doorLaid Tryd.prog 400 os).forCall (fun _ _ => 0) ⟨#[], args, []⟩).memory fn.params.toList s.vars false args.toList 8 = some x)
    (hkk : ∀ k, s.cond = some k → k H (x.1 ++ x.2.1) = true)
    (hsz : s.bare.sizedB enc Tryd.prog fn false ((World.doorLaid Tryd.prog 400 os).forCall (fun _ _ => 0) ⟨#[], args, []⟩).memory args 8 = true) :
    ∃ (w : World) (tape : Tape) (i : Input), w.os = os ∧ (w.forCall tape i).Shaped Tryd.prog ∧ i.vars = [] ∧ Input.okWide Tryd.prog (w.forCall tape i) .any w.heap.size f i ∧
      s.preRow enc Tryd.prog fn [] false [("bytes.ErrTooLarge", Rows.laid_bytes_ErrTooLarge)] (w.forCall tape i).memory i.args ∧ ({} : Assume).holds Tryd.prog (lone (Frame.enter Tryd.prog f i.args .normal) [] (w.forCall tape i)) :=
  ⟨World.doorLaid Tryd.prog 400 os, fun _ _ => 0, ⟨#[], args, []⟩, rfl, door_shaped os args, (Input.okWide_of_okWideB (base := 0) hok).1, (Input.okWide_of_okWideB hok).2,
    OpenSpec.preRow_of_cond 8 hx rfl hkk hsz (door_met os args), by
    simp only [Assume.holds]
    exact ⟨by simp, by simp, fun _ => Modest.zero, by simp, by simp⟩⟩
end Go.Proofs.YtbbhjceelghadaaDoor.My
end

section
-- from Order
namespace Go.Proofs.YtbbhjceelghadaaDoor.My
open Go
set_option maxRecDepth 100000
theorem words_cons (c : Char) (h : c ≠ Char.ofNat 32) {r w : List Char} {ws : List (List Char)} (hr : wordsSigns r = w :: ws) : wordsSigns (c :: r) = (c :: w) :: ws := by
  unfold wordsSigns
  split
  · rename_i heq; cases heq
  · rename_i heq; injection heq with h1 _; exact absurd h1 h
  · rename_i heq; injection heq with h1 h2; subst h1; subst h2; rw [hr]
theorem words_cut : ∀ (w : List Char), (w.all fun c => decide (c ≠ Char.ofNat 32)) = true → ∀ r, wordsSigns (w ++ Char.ofNat 32 :: r) = w :: wordsSigns r
  | [], _, r => rfl
  | c :: w, h, r => by
    simp only [List.all_cons, Bool.and_eq_true, decide_eq_true_eq] at h
    exact words_cons c h.1 (words_cut w h.2 r)
def word0 : List Char := [Char.ofNat 104, Char.ofNat 97, Char.ofNat 114, Char.ofNat 110, Char.ofNat 101, Char.ofNat 115, Char.ofNat 115]
def word1 : List Char := [Char.ofNat 101, Char.ofNat 50, Char.ofNat 98, Char.ofNat 56, Char.ofNat 55, Char.ofNat 49, Char.ofNat 99, Char.ofNat 98, Char.ofNat 56, Char.ofNat 48, Char.ofNat 100, Char.ofNat 51, Char.ofNat 55, Char.ofNat 54, Char.ofNat 100, Char.ofNat 53, Char.ofNat 97, Char.ofNat 100, Char.ofNat 57, Char.ofNat 49,
    Char.ofNat 49, Char.ofNat 56, Char.ofNat 52, Char.ofNat 49, Char.ofNat 98, Char.ofNat 100, Char.ofNat 57, Char.ofNat 48, Char.ofNat 49, Char.ofNat 48, Char.ofNat 97, Char.ofNat 52, Char.ofNat 56, Char.ofNat 98, Char.ofNat 54, Char.ofNat 54, Char.ofNat 53, Char.ofNat 48, Char.ofNat 55, Char.ofNat 102,
    Char.ofNat 98, Char.ofNat 49, Char.ofNat 52, Char.ofNat 97, Char.ofNat 48, Char.ofNat 97, Char.ofNat 102, Char.ofNat 49, Char.ofNat 51, Char.ofNat 98, Char.ofNat 51, Char.ofNat 54, Char.ofNat 102, Char.ofNat 57, Char.ofNat 99, Char.ofNat 54, Char.ofNat 52, Char.ofNat 49, Char.ofNat 52, Char.ofNat 101,
    Char.ofNat 100, Char.ofNat 49, Char.ofNat 98, Char.ofNat 48]
def word2 : List Char := [Char.ofNat 99, Char.ofNat 117, Char.ofNat 116]
def behind : List Char := [Char.ofNat 97, Char.ofNat 116, Char.ofNat 32, Char.ofNat 115, Char.ofNat 116, Char.ofNat 114, Char.ofNat 97, Char.ofNat 116, Char.ofNat 117, Char.ofNat 109, Char.ofNat 47, Char.ofNat 115, Char.ofNat 116, Char.ofNat 114, Char.ofNat 97, Char.ofNat 116, Char.ofNat 117, Char.ofNat 109, Char.ofNat 108, Char.ofNat 97,
    Char.ofNat 119, Char.ofNat 49, Char.ofNat 48, Char.ofNat 46, Char.ofNat 68, Char.ofNat 105, Char.ofNat 115, Char.ofNat 107, Char.ofNat 76, Char.ofNat 97, Char.ofNat 115, Char.ofNat 116, Char.ofNat 115, Char.ofNat 32, Char.ofNat 115, Char.ofNat 116, Char.ofNat 114, Char.ofNat 97, Char.ofNat 116, Char.ofNat 117,
    Char.ofNat 109, Char.ofNat 47, Char.ofNat 115, Char.ofNat 116, Char.ofNat 114, Char.ofNat 97, Char.ofNat 116, Char.ofNat 117, Char.ofNat 109, Char.ofNat 108, Char.ofNat 97, Char.ofNat 119, Char.ofNat 49, Char.ofNat 48, Char.ofNat 46, Char.ofNat 68, Char.ofNat 105, Char.ofNat 115, Char.ofNat 107, Char.ofNat 82,
    Char.ofNat 111, Char.ofNat 111, Char.ofNat 109, Char.ofNat 32, Char.ofNat 115, Char.ofNat 116, Char.ofNat 114, Char.ofNat 97, Char.ofNat 116, Char.ofNat 117, Char.ofNat 109, Char.ofNat 47, Char.ofNat 115, Char.ofNat 116, Char.ofNat 114, Char.ofNat 97, Char.ofNat 116, Char.ofNat 117, Char.ofNat 109, Char.ofNat 108,
    Char.ofNat 97, Char.ofNat 119, Char.ofNat 49, Char.ofNat 48, Char.ofNat 46, Char.ofNat 68, Char.ofNat 105, Char.ofNat 115, Char.ofNat 107, Char.ofNat 67, Char.ofNat 97, Char.ofNat 108, Char.ofNat 108, Char.ofNat 115, Char.ofNat 32, Char.ofNat 115, Char.ofNat 116, Char.ofNat 114, Char.ofNat 97, Char.ofNat 116,
    Char.ofNat 117, Char.ofNat 109, Char.ofNat 47, Char.ofNat 115, Char.ofNat 116, Char.ofNat 114, Char.ofNat 97, Char.ofNat 116, Char.ofNat 117, Char.ofNat 109, Char.ofNat 108, Char.ofNat 97, Char.ofNat 119, Char.ofNat 49, Char.ofNat 48, Char.ofNat 46, Char.ofNat 68, Char.ofNat 105, Char.ofNat 115, Char.ofNat 107,
    Char.ofNat 67, Char.ofNat 117, Char.ofNat 116, Char.ofNat 115, Char.ofNat 32, Char.ofNat 115, Char.ofNat 116, Char.ofNat 114, Char.ofNat 97, Char.ofNat 116, Char.ofNat 117, Char.ofNat 109, Char.ofNat 47, Char.ofNat 115, Char.ofNat 116, Char.ofNat 114, Char.ofNat 97, Char.ofNat 116, Char.ofNat 117, Char.ofNat 109,
    Char.ofNat 108, Char.ofNat 97, Char.ofNat 119, Char.ofNat 49, Char.ofNat 48, Char.ofNat 46, Char.ofNat 68, Char.ofNat 105, Char.ofNat 115, Char.ofNat 107, Char.ofNat 68, Char.ofNat 111, Char.ofNat 101, Char.ofNat 115, Char.ofNat 32, Char.ofNat 115, Char.ofNat 116, Char.ofNat 114, Char.ofNat 97, Char.ofNat 116,
    Char.ofNat 117, Char.ofNat 109, Char.ofNat 47, Char.ofNat 115, Char.ofNat 116, Char.ofNat 114, Char.ofNat 97, Char.ofNat 116, Char.ofNat 117, Char.ofNat 109, Char.ofNat 108, Char.ofNat 97, Char.ofNat 119, Char.ofNat 49, Char.ofNat 48, Char.ofNat 46, Char.ofNat 68, Char.ofNat 105, Char.ofNat 115, Char.ofNat 107,
    Char.ofNat 72, Char.ofNat 97, Char.ofNat 108, Char.ofNat 116, Char.ofNat 115, Char.ofNat 32, Char.ofNat 115, Char.ofNat 116, Char.ofNat 114, Char.ofNat 97, Char.ofNat 116, Char.ofNat 117, Char.ofNat 109, Char.ofNat 47, Char.ofNat 115, Char.ofNat 116, Char.ofNat 114, Char.ofNat 97, Char.ofNat 116, Char.ofNat 117,
    Char.ofNat 109, Char.ofNat 108, Char.ofNat 97, Char.ofNat 119, Char.ofNat 48, Char.ofNat 55, Char.ofNat 46, Char.ofNat 67, Char.ofNat 111, Char.ofNat 100, Char.ofNat 101, Char.ofNat 69, Char.ofNat 110, Char.ofNat 99, Char.ofNat 111, Char.ofNat 100, Char.ofNat 101, Char.ofNat 115, Char.ofNat 32, Char.ofNat 115,
    Char.ofNat 116, Char.ofNat 114, Char.ofNat 97, Char.ofNat 116, Char.ofNat 117, Char.ofNat 109, Char.ofNat 47, Char.ofNat 115, Char.ofNat 116, Char.ofNat 114, Char.ofNat 97, Char.ofNat 116, Char.ofNat 117, Char.ofNat 109, Char.ofNat 108, Char.ofNat 97, Char.ofNat 119, Char.ofNat 48, Char.ofNat 55, Char.ofNat 46,
    Char.ofNat 67, Char.ofNat 111, Char.ofNat 100, Char.ofNat 101, Char.ofNat 77, Char.ofNat 97, Char.ofNat 107, Char.ofNat 101, Char.ofNat 115, Char.ofNat 32, Char.ofNat 115, Char.ofNat 116, Char.ofNat 114, Char.ofNat 97, Char.ofNat 116, Char.ofNat 117, Char.ofNat 109, Char.ofNat 47, Char.ofNat 115, Char.ofNat 116,
    Char.ofNat 114, Char.ofNat 97, Char.ofNat 116, Char.ofNat 117, Char.ofNat 109, Char.ofNat 108, Char.ofNat 97, Char.ofNat 119, Char.ofNat 48, Char.ofNat 55, Char.ofNat 46, Char.ofNat 67, Char.ofNat 111, Char.ofNat 100, Char.ofNat 101, Char.ofNat 68, Char.ofNat 101, Char.ofNat 99, Char.ofNat 111, Char.ofNat 100,
    Char.ofNat 101, Char.ofNat 115, Char.ofNat 32, Char.ofNat 115, Char.ofNat 116, Char.ofNat 114, Char.ofNat 97, Char.ofNat 116, Char.ofNat 117, Char.ofNat 109, Char.ofNat 47, Char.ofNat 115, Char.ofNat 116, Char.ofNat 114, Char.ofNat 97, Char.ofNat 116, Char.ofNat 117, Char.ofNat 109, Char.ofNat 108, Char.ofNat 97,
    Char.ofNat 119, Char.ofNat 48, Char.ofNat 55, Char.ofNat 46, Char.ofNat 67, Char.ofNat 111, Char.ofNat 100, Char.ofNat 101, Char.ofNat 79, Char.ofNat 110, Char.ofNat 108, Char.ofNat 121, Char.ofNat 32, Char.ofNat 115, Char.ofNat 116, Char.ofNat 114, Char.ofNat 97, Char.ofNat 116, Char.ofNat 117, Char.ofNat 109,
    Char.ofNat 47, Char.ofNat 115, Char.ofNat 116, Char.ofNat 114, Char.ofNat 97, Char.ofNat 116, Char.ofNat 117, Char.ofNat 109, Char.ofNat 108, Char.ofNat 97, Char.ofNat 119, Char.ofNat 48, Char.ofNat 55, Char.ofNat 46, Char.ofNat 67, Char.ofNat 111, Char.ofNat 100, Char.ofNat 101, Char.ofNat 65, Char.ofNat 112,
    Char.ofNat 97, Char.ofNat 114, Char.ofNat 116, Char.ofNat 32, Char.ofNat 115, Char.ofNat 116, Char.ofNat 114, Char.ofNat 97, Char.ofNat 116, Char.ofNat 117, Char.ofNat 109, Char.ofNat 47, Char.ofNat 115, Char.ofNat 116, Char.ofNat 114, Char.ofNat 97, Char.ofNat 116, Char.ofNat 117, Char.ofNat 109, Char.ofNat 108,
    Char.ofNat 97, Char.ofNat 119, Char.ofNat 48, Char.ofNat 55, Char.ofNat 46, Char.ofNat 67, Char.ofNat 111, Char.ofNat 100, Char.ofNat 101, Char.ofNat 76, Char.ofNat 111, Char.ofNat 110, Char.ofNat 103, Char.ofNat 32, Char.ofNat 115, Char.ofNat 116, Char.ofNat 114, Char.ofNat 97, Char.ofNat 116, Char.ofNat 117,
    Char.ofNat 109, Char.ofNat 47, Char.ofNat 115, Char.ofNat 116, Char.ofNat 114, Char.ofNat 97, Char.ofNat 116, Char.ofNat 117, Char.ofNat 109, Char.ofNat 108, Char.ofNat 97, Char.ofNat 119, Char.ofNat 49, Char.ofNat 54, Char.ofNat 46, Char.ofNat 77, Char.ofNat 115, Char.ofNat 103, Char.ofNat 69, Char.ofNat 110,
    Char.ofNat 99, Char.ofNat 111, Char.ofNat 100, Char.ofNat 101, Char.ofNat 115, Char.ofNat 32, Char.ofNat 115, Char.ofNat 116, Char.ofNat 114, Char.ofNat 97, Char.ofNat 116, Char.ofNat 117, Char.ofNat 109, Char.ofNat 47, Char.ofNat 115, Char.ofNat 116, Char.ofNat 114, Char.ofNat 97, Char.ofNat 116, Char.ofNat 117,
    Char.ofNat 109, Char.ofNat 108, Char.ofNat 97, Char.ofNat 119, Char.ofNat 49, Char.ofNat 54, Char.ofNat 46, Char.ofNat 77, Char.ofNat 115, Char.ofNat 103, Char.ofNat 68, Char.ofNat 101, Char.ofNat 99, Char.ofNat 111, Char.ofNat 100, Char.ofNat 101, Char.ofNat 115, Char.ofNat 32, Char.ofNat 115, Char.ofNat 116,
    Char.ofNat 114, Char.ofNat 97, Char.ofNat 116, Char.ofNat 117, Char.ofNat 109, Char.ofNat 47, Char.ofNat 115, Char.ofNat 116, Char.ofNat 114, Char.ofNat 97, Char.ofNat 116, Char.ofNat 117, Char.ofNat 109, Char.ofNat 108, Char.ofNat 97, Char.ofNat 119, Char.ofNat 49, Char.ofNat 54, Char.ofNat 46, Char.ofNat 77,
    Char.ofNat 115, Char.ofNat 103, Char.ofNat 66, Char.ofNat 97, Char.ofNat 99, Char.ofNat 107, Char.ofNat 32, Char.ofNat 115, Char.ofNat 116, Char.ofNat 114, Char.ofNat 97, Char.ofNat 116, Char.ofNat 117, Char.ofNat 109, Char.ofNat 47, Char.ofNat 115, Char.ofNat 116, Char.ofNat 114, Char.ofNat 97, Char.ofNat 116,
    Char.ofNat 117, Char.ofNat 109, Char.ofNat 108, Char.ofNat 97, Char.ofNat 119, Char.ofNat 49, Char.ofNat 54, Char.ofNat 46, Char.ofNat 77, Char.ofNat 115, Char.ofNat 103, Char.ofNat 79, Char.ofNat 110, Char.ofNat 108, Char.ofNat 121, Char.ofNat 32, Char.ofNat 115, Char.ofNat 116, Char.ofNat 114, Char.ofNat 97,
    Char.ofNat 116, Char.ofNat 117, Char.ofNat 109, Char.ofNat 47, Char.ofNat 115, Char.ofNat 116, Char.ofNat 114, Char.ofNat 97, Char.ofNat 116, Char.ofNat 117, Char.ofNat 109, Char.ofNat 108, Char.ofNat 97, Char.ofNat 119, Char.ofNat 49, Char.ofNat 54, Char.ofNat 46, Char.ofNat 77, Char.ofNat 115, Char.ofNat 103,
    Char.ofNat 65, Char.ofNat 112, Char.ofNat 97, Char.ofNat 114, Char.ofNat 116, Char.ofNat 32, Char.ofNat 115, Char.ofNat 116, Char.ofNat 114, Char.ofNat 97, Char.ofNat 116, Char.ofNat 117, Char.ofNat 109, Char.ofNat 47, Char.ofNat 115, Char.ofNat 116, Char.ofNat 114, Char.ofNat 97, Char.ofNat 116, Char.ofNat 117,
    Char.ofNat 109, Char.ofNat 108, Char.ofNat 97, Char.ofNat 119, Char.ofNat 49, Char.ofNat 54, Char.ofNat 46, Char.ofNat 77, Char.ofNat 115, Char.ofNat 103, Char.ofNat 75, Char.ofNat 105, Char.ofNat 110, Char.ofNat 100, Char.ofNat 115, Char.ofNat 32, Char.ofNat 115, Char.ofNat 116, Char.ofNat 114, Char.ofNat 97,
    Char.ofNat 116, Char.ofNat 117, Char.ofNat 109, Char.ofNat 47, Char.ofNat 115, Char.ofNat 116, Char.ofNat 114, Char.ofNat 97, Char.ofNat 116, Char.ofNat 117, Char.ofNat 109, Char.ofNat 108, Char.ofNat 97, Char.ofNat 119, Char.ofNat 49, Char.ofNat 49, Char.ofNat 46, Char.ofNat 87, Char.ofNat 97, Char.ofNat 108,
    Char.ofNat 82, Char.ofNat 111, Char.ofNat 111, Char.ofNat 109, Char.ofNat 32, Char.ofNat 115, Char.ofNat 116, Char.ofNat 114, Char.ofNat 97, Char.ofNat 116, Char.ofNat 117, Char.ofNat 109, Char.ofNat 47, Char.ofNat 115, Char.ofNat 116, Char.ofNat 114, Char.ofNat 97, Char.ofNat 116, Char.ofNat 117, Char.ofNat 109,
    Char.ofNat 108, Char.ofNat 97, Char.ofNat 119, Char.ofNat 49, Char.ofNat 49, Char.ofNat 46, Char.ofNat 87, Char.ofNat 97, Char.ofNat 108, Char.ofNat 70, Char.ofNat 114, Char.ofNat 111, Char.ofNat 110, Char.ofNat 116, Char.ofNat 115, Char.ofNat 32, Char.ofNat 115, Char.ofNat 116, Char.ofNat 114, Char.ofNat 97,
    Char.ofNat 116, Char.ofNat 117, Char.ofNat 109, Char.ofNat 47, Char.ofNat 115, Char.ofNat 116, Char.ofNat 114, Char.ofNat 97, Char.ofNat 116, Char.ofNat 117, Char.ofNat 109, Char.ofNat 108, Char.ofNat 97, Char.ofNat 119, Char.ofNat 49, Char.ofNat 49, Char.ofNat 46, Char.ofNat 87, Char.ofNat 97, Char.ofNat 108,
    Char.ofNat 76, Char.ofNat 97, Char.ofNat 115, Char.ofNat 116, Char.ofNat 115]
theorem order_is : Tryd.prog.initOrder = String.ofList (word0 ++ Char.ofNat 32 :: (word1 ++ Char.ofNat 32 :: (word2 ++ Char.ofNat 32 :: behind))) := by kernel_rfl
theorem order_words : wordsSigns Tryd.prog.initOrder.toList = word0 :: word1 :: word2 :: wordsSigns behind := by
  rw [order_is, String.toList_ofList, words_cut _ (by kernel_rfl), words_cut _ (by kernel_rfl), words_cut _ (by kernel_rfl)]
theorem order_behind : behindMainWord (wordsSigns Tryd.prog.initOrder.toList) = word2 :: wordsSigns behind := by rw [order_words]; kernel_rfl
theorem main_of {P : Program} {h s : List Char} {r : List (List Char)} (e : wordsSigns P.initOrder.toList = h :: s :: r) : P.mainIs = (if !isSumSigns s then none else if h == "harness".toList then some (true, s) else if h == "ownmain".toList then some (false, s) else none) := by unfold Program.mainIs; rw [e]
theorem make_of {P : Program} {c : List Char} {r : List (List Char)} (e : behindMainWord (wordsSigns P.initOrder.toList) = c :: r) (h1 : (c == "gc".toList || c == "spec".toList) = false) (h2 : (c == "cut".toList) = true) : P.make = some .cut := by
  unfold Program.make; rw [e]; simp only [h1, h2]; rfl
theorem may_of {P : Program} {c : List Char} {r : List (List Char)} (e : behindMainWord (wordsSigns P.initOrder.toList) = c :: r) (h : ((stripLifts liftWords (c :: r)).2.head? == some "cut".toList && ((stripLifts liftWords (c :: r)).1.contains "finals" || !P.laysLater) && ((stripLifts liftWords (c :: r)).1.contains "reflectrows" || !P.bearsReflect) && ((stripLifts liftWords (c :: r)).1.contains "reflectrows" || !(stripLifts liftWords (c :: r)).1.contains "leanrows") && P.doorFits (stripLifts liftWords (c :: r)).1) = true) : P.mayEnter = true := by
  unfold Program.mayEnter; rw [e]; simp only [h, Bool.or_true]
theorem strip_is : stripLifts liftWords (word2 :: wordsSigns behind) = ([], word2 :: wordsSigns behind) := by kernel_rfl
theorem order_may : Tryd.prog.mayEnter = true := may_of order_behind (by rw [strip_is]; kernel_rfl)
theorem order_final : Tryd.prog.liftsFinal = false := by unfold Program.liftsFinal Program.headLifts; rw [order_behind]; kernel_rfl
theorem order_make : Tryd.prog.make = some .cut := make_of order_behind (by kernel_rfl) (by kernel_rfl)
theorem sum_is : ("e2b871cb80d376d5ad911841bd9010a48b66507fb14a0af13b36f9c6414ed1b0" : String) = String.ofList word1 := by kernel_rfl
theorem order_main : Tryd.prog.mainIs = some (true, ("e2b871cb80d376d5ad911841bd9010a48b66507fb14a0af13b36f9c6414ed1b0" : String).toList) := by rw [sum_is, String.toList_ofList]; exact (main_of order_words).trans (by kernel_rfl)
theorem pin_may : Tryd.pinned.checked.prog.mayEnter = true := order_may
theorem pin_final : Tryd.pinned.checked.prog.liftsFinal = false := order_final
theorem pin_make : Tryd.pinned.checked.prog.make = some .cut := order_make
theorem pin_main : Tryd.pinned.checked.prog.mainIs = some (true, ("e2b871cb80d376d5ad911841bd9010a48b66507fb14a0af13b36f9c6414ed1b0" : String).toList) := order_main
theorem band {a b : Bool} (ha : a = true) (hb : b = true) : (a && b) = true := by rw [ha, hb]; rfl
end Go.Proofs.YtbbhjceelghadaaDoor.My
end

section
-- from BufG
namespace Go.Proofs
open Go.Shelf
def Tryd.laysM290_ren : Go.Shelf.Ren := ⟨fun | 290 => 137 | 324 => 149 | n => n, fun | 37 => 23 | 3 => 3 | 0 => 0 | 4 => 4 | 20 => 20 | 75 => 117 | 5 => 5 | 80 => 203 | 9 => 9 | n => n, fun | 14 => 0 | n => n⟩
theorem Tryd.laysM290 : Go.Proofs.LaysM.n290 Tryd.prog Tryd.laysM290_ren := {
  mixed := by kernel_rfl
  f290 := Tryd.func137.trans (congrArg some (by kernel_rfl))
  f324 := Tryd.func149.trans (congrArg some (by kernel_rfl))
  t0 := Tryd.underlying0
  a0 := Tryd.isAgg0
  z0 := Tryd.sizeOf0
  v0 := Tryd.zeroValue0
  t3 := Tryd.underlying3
  a3 := Tryd.isAgg3
  z3 := Tryd.sizeOf3
  v3 := Tryd.zeroValue3
  t4 := Tryd.underlying4
  a4 := Tryd.isAgg4
  z4 := Tryd.sizeOf4
  v4 := Tryd.zeroValue4
  t20 := Tryd.underlying20
  a20 := Tryd.isAgg20
  z20 := Tryd.sizeOf20
  v20 := Tryd.zeroValue20
  t37 := Tryd.underlying23
  a37 := Tryd.isAgg23
  z37 := Tryd.sizeOf23
  v37 := Tryd.zeroValue23
  t75 := Tryd.underlying117
  a75 := Tryd.isAgg117
  z75 := Tryd.sizeOf117
  v75 := Tryd.zeroValue117
  g14 := by kernel_rfl
  t5 := Tryd.underlying5
  a5 := Tryd.isAgg5
  z5 := Tryd.sizeOf5
  v5 := Tryd.zeroValue5
  t9 := Tryd.underlying9
  a9 := Tryd.isAgg9
  z9 := Tryd.sizeOf9
  v9 := Tryd.zeroValue9
  t80 := Tryd.underlying203
  a80 := Tryd.isAgg203
  z80 := Tryd.sizeOf203
  v80 := Tryd.zeroValue203
  i0 := by kernel_rfl
  i3 := by kernel_rfl
  i4 := by kernel_rfl
  i5 := by kernel_rfl
  i9 := by kernel_rfl
  i20 := by kernel_rfl
  i37 := by kernel_rfl
  i75 := by kernel_rfl
  i80 := by kernel_rfl
  m14 := by kernel_rfl }
open Go.RowKit in
/-- bytes.growSlice: "growSlice grows b by n, preserving the original content of b.": OF A SLICE THAT LIES AT THE HEAD OF A ROW: a new row, number 'w.heap.size': it begins with b's l cells; its capacity has room for n more; whatever lay below is as it was. (LAID: no walk: one application.) -/
theorem Tryd.bytes_growSlice_row (g l c n : Nat) (cur : Array Value) (w : World) (hg : w.heap[g]? = some (.cells cur 5 (0, 0))) (hcs : cur.size = c) (hlc : l ≤ c) (hn : 1 ≤ n) (hlim : l + n ≤ 140737488355328) (hc2 : c ≤ 140737488355328) (h1 : ∀ v ∈ cur.toList.take l, v.oneCell' = true) :
    Calls Tryd.prog 137 #[.slice (some ⟨g, 0, none⟩) l c, .int .i64 n] w fun e w' => ∃ cap2 cells, e = .returned (.slice (some ⟨w.heap.size, 0, none⟩) l cap2) ∧ w'.heap[w.heap.size]? = some (.cells cells 5 (0, 0)) ∧
      cells.size = cap2 ∧ cells.toList.take l = cur.toList.take l ∧ l + n ≤ cap2 ∧ cap2 ≤ maxLen ∧ Below w.heap.size w w' := Any.bytes_growSlice_row Tryd.laysM290 g l c n cur w hg hcs hlc hn hlim hc2 h1
open Go.RowKit in
/-- .. OF THE NIL SLICE: a new row with room for n. (LAID: no walk: one application.) -/
theorem Tryd.bytes_growSlice_nil (n : Nat) (w : World) (hn : 1 ≤ n) (hlim : n ≤ 140737488355328) :
    Calls Tryd.prog 137 #[.slice none 0 0, .int .i64 n] w fun e w' => ∃ cap2 cells, e = .returned (.slice (some ⟨w.heap.size, 0, none⟩) 0 cap2) ∧ w'.heap[w.heap.size]? = some (.cells cells 5 (0, 0)) ∧
      cells.size = cap2 ∧ n ≤ cap2 ∧ cap2 ≤ maxLen ∧ Below w.heap.size w w' := Any.bytes_growSlice_nil Tryd.laysM290 n w hn hlim
def Tryd.laysM251_ren : Go.Shelf.Ren := ⟨fun | 251 => 114 | n => n, fun | 130 => 125 | 3 => 3 | 4 => 4 | 0 => 0 | 93 => 111 | 37 => 23 | 91 => 109 | 5 => 5 | n => n, fun | n => n⟩
theorem Tryd.laysM251 : Go.Proofs.LaysM.n251 Tryd.prog Tryd.laysM251_ren := {
  mixed := by kernel_rfl
  f251 := Tryd.func114.trans (congrArg some (by kernel_rfl))
  t0 := Tryd.underlying0
  a0 := Tryd.isAgg0
  z0 := Tryd.sizeOf0
  v0 := Tryd.zeroValue0
  t3 := Tryd.underlying3
  a3 := Tryd.isAgg3
  z3 := Tryd.sizeOf3
  v3 := Tryd.zeroValue3
  t4 := Tryd.underlying4
  a4 := Tryd.isAgg4
  z4 := Tryd.sizeOf4
  v4 := Tryd.zeroValue4
  t37 := Tryd.underlying23
  a37 := Tryd.isAgg23
  z37 := Tryd.sizeOf23
  v37 := Tryd.zeroValue23
  t93 := Tryd.underlying111
  a93 := Tryd.isAgg111
  z93 := Tryd.sizeOf111
  v93 := Tryd.zeroValue111
  t130 := Tryd.underlying125
  a130 := Tryd.isAgg125
  z130 := Tryd.sizeOf125
  v130 := Tryd.zeroValue125
  t5 := Tryd.underlying5
  a5 := Tryd.isAgg5
  z5 := Tryd.sizeOf5
  v5 := Tryd.zeroValue5
  t91 := Tryd.underlying109
  a91 := Tryd.isAgg109
  z91 := Tryd.sizeOf109
  v91 := Tryd.zeroValue109
  i0 := by kernel_rfl
  i3 := by kernel_rfl
  i4 := by kernel_rfl
  i5 := by kernel_rfl
  i37 := by kernel_rfl
  i91 := by kernel_rfl
  i93 := by kernel_rfl
  i130 := by kernel_rfl }
open Go.RowKit in
/-- (*bytes.Buffer).tryGrowByReslice: "tryGrowByReslice is an inlineable version of grow for the fast-case where the internal buffer only needs to be resliced. It returns the index where bytes should be written and whether it succeeded.": THERE IS ROOM: 'buf' is resliced to l + n. (LAID: no walk: one application.) -/
theorem Tryd.Buffer_tryGrow_room_at (b q : Nat) (ao : Option Addr) (l cap n : Nat) (w : World) (c0 : w.cell? ⟨b, q, none⟩ = some (.slice ao l cap)) (f0 : w.frozen? ⟨b, q, none⟩ = false) (hlc : l ≤ cap) (hcap : cap ≤ maxLen) (hn : n ≤ cap - l) :
    Calls Tryd.prog 114 #[.pointer (some ⟨b, q, none⟩), .int .i64 n] w fun e w' => e = .returned (.tuple #[.int .i64 l, .bool true]) ∧ w' = w.setCell ⟨b, q, none⟩ (.slice ao (l + n) cap) := Any.Buffer_tryGrow_room_at Tryd.laysM251 b q ao l cap n w c0 f0 hlc hcap hn
open Go.RowKit in
/-- .. THERE IS NONE: nothing turns. (LAID: no walk: one application.) -/
theorem Tryd.Buffer_tryGrow_none_at (b q : Nat) (ao : Option Addr) (l cap n : Nat) (w : World) (c0 : w.cell? ⟨b, q, none⟩ = some (.slice ao l cap)) (hlc : l ≤ cap) (hcap : cap ≤ maxLen) (hn : cap - l < n) :
    Calls Tryd.prog 114 #[.pointer (some ⟨b, q, none⟩), .int .i64 n] w fun e w' => e = .returned (.tuple #[.int .i64 0, .bool false]) ∧ w' = w := Any.Buffer_tryGrow_none_at Tryd.laysM251 b q ao l cap n w c0 hlc hcap hn
end Go.Proofs
end

section
-- from DiskG
namespace Go.Proofs.YtbbhjceelghadaaDoor.K
open Go Go.RowKit Go.Proofs.YtbbhjceelghadaaDoorW.PrintWords Go.Proofs.YtbbhjceelghadaaDoorW.PrintLast Go.Proofs.YtbbhjceelghadaaDoorW.PrintMore Go.Proofs.YtbbhjceelghadaaDoor.My
/-- A disk's cells. -/
def Dc (w : World) (b : Nat) (ao : Option Addr) (l cap : Nat) (lr lasts room left : Int) : Prop :=
  w.heap[b]? = some (.cells #[.slice ao l cap, .int .i64 0, .int .i8 lr, .int .i64 lasts, .int .i64 room, .int .i64 left] 113 (0, 0))
section
variable {w : World} {b : Nat} {ao : Option Addr} {l cap : Nat} {lr lasts room left : Int}
theorem Dc.c0 (h : Dc w b ao l cap lr lasts room left) : w.cell? ⟨b, 0, none⟩ = some (.slice ao l cap) := (blk_cell h 0).trans rfl
theorem Dc.c1 (h : Dc w b ao l cap lr lasts room left) : w.cell? ⟨b, 1, none⟩ = some (.int .i64 0) := (blk_cell h 1).trans rfl
theorem Dc.c2 (h : Dc w b ao l cap lr lasts room left) : w.cell? ⟨b, 2, none⟩ = some (.int .i8 lr) := (blk_cell h 2).trans rfl
theorem Dc.c3 (h : Dc w b ao l cap lr lasts room left) : w.cell? ⟨b, 3, none⟩ = some (.int .i64 lasts) := (blk_cell h 3).trans rfl
theorem Dc.c4 (h : Dc w b ao l cap lr lasts room left) : w.cell? ⟨b, 4, none⟩ = some (.int .i64 room) := (blk_cell h 4).trans rfl
theorem Dc.c5 (h : Dc w b ao l cap lr lasts room left) : w.cell? ⟨b, 5, none⟩ = some (.int .i64 left) := (blk_cell h 5).trans rfl
theorem Dc.f (h : Dc w b ao l cap lr lasts room left) (i : Nat) : w.frozen? ⟨b, i, none⟩ = false := blk_frozen h i
theorem Dc.lt (h : Dc w b ao l cap lr lasts room left) : b < w.heap.size := blk_lt h
theorem Dc.below {w' : World} (h : Dc w b ao l cap lr lasts room left) (hb : Below w.heap.size w w') : Dc w' b ao l cap lr lasts room left := heap_below hb h
theorem Dc.s0 (h : Dc w b ao l cap lr lasts room left) (ao' : Option Addr) (l' cap' : Nat) : Dc (w.setCell ⟨b, 0, none⟩ (.slice ao' l' cap')) b ao' l' cap' lr lasts room left := blk_put h 0 _ rfl
theorem Dc.s1 (h : Dc w b ao l cap lr lasts room left) : Dc (w.setCell ⟨b, 1, none⟩ (.int .i64 0)) b ao l cap lr lasts room left := blk_put h 1 _ rfl
theorem Dc.s2 (h : Dc w b ao l cap lr lasts room left) (x : Int) : Dc (w.setCell ⟨b, 2, none⟩ (.int .i8 x)) b ao l cap x lasts room left := blk_put h 2 _ rfl
theorem Dc.s3 (h : Dc w b ao l cap lr lasts room left) (x : Int) : Dc (w.setCell ⟨b, 3, none⟩ (.int .i64 x)) b ao l cap lr x room left := blk_put h 3 _ rfl
theorem Dc.s5 (h : Dc w b ao l cap lr lasts room left) (x : Int) : Dc (w.setCell ⟨b, 5, none⟩ (.int .i64 x)) b ao l cap lr lasts room x := blk_put h 5 _ rfl
end
theorem grown_below {w w1 w2 : World} {row : Option Nat} (h : w.grownBy w1 row) (k : Below w1.heap.size w1 w2) : w.grownBy w2 row :=
  ⟨k.os.trans h.os, k.tape.trans h.tape, k.output.trans h.output, Nat.le_trans h.size k.size, fun i hi hne => (k.block i (Nat.lt_of_lt_of_le hi h.size)).trans (h.block i hi hne)⟩
theorem grown_set {w w1 : World} {b : Nat} (h : w.grownBy w1 (some b)) (i : Nat) (v : Value) : w.grownBy (w1.setCell ⟨b, i, none⟩ v) (some b) := Lib.grownBy_trans h (Lib.grownBy_setCell w1 b i v)
set_option maxHeartbeats 1000000 in
theorem dlen_any {b : Nat} {ao : Option Addr} {l cap : Nat} {lr lasts room left : Int} (w : World) (h : Dc w b ao l cap lr lasts room left) (hl : l ≤ 140737488355328) :
    Calls Tryd.prog 68 #[.pointer (some ⟨b, 0, none⟩)] w fun e w' => e = .returned (.int .i64 l) ∧ ∃ n, w' = w.drewN n := by
  have c0 := h.c0
  have c1 := h.c1
  have mixed : Tryd.prog.follows Departure.mixedOrders = true := by kernel_rfl
  have hwl : IntKind.i64.wrap (l : Int) = l := by rw [IntKind.wrap_i64]; omega
  clear h
  go_enter Tryd.func68, Tryd.ntmps68
  go_wp2
  go_region_o
  all_goals (go_wp2; go_ret; exact ⟨by simp [Act.put, hwl], 1, rfl⟩)
set_option maxHeartbeats 12800000 in
set_option maxRecDepth 100000 in
/-- grow, where a row has no room: a new one. -/
theorem dgrow_row {b g l cap n : Nat} {lr lasts room left : Int} {cur : Array Value} (w : World) (h : Dc w b (some ⟨g, 0, none⟩) l cap lr lasts room left) (hg : w.heap[g]? = some (.cells cur 5 (0, 0))) (hlc : l ≤ cap) (hcm : cap ≤ maxLen) (hcs : cur.size = cap)
    (h1 : ∀ v ∈ cur.toList.take l, v.oneCell' = true) (hn : 1 ≤ n) (hroom : cap - l < n) (hlim : l + n ≤ 140737488355328) :
    Calls Tryd.prog 115 #[.pointer (some ⟨b, 0, none⟩), .int .i64 n] w fun e w' => e = .returned (.int .i64 l) ∧ ∃ g2 cap2 cells, Dc w' b (some ⟨g2, 0, none⟩) (l + n) cap2 lr lasts room left ∧ w'.heap[g2]? = some (.cells cells 5 (0, 0)) ∧ w.heap.size ≤ g2 ∧
      cells.size = cap2 ∧ cells.toList.take l = cur.toList.take l ∧ l + n ≤ cap2 ∧ cap2 ≤ maxLen ∧ w.grownBy w' (some b) := by
  have hnil : ∀ W l, (binOp .eql 23 (.slice (some ⟨g, 0, none⟩) l cap) (.slice none 0 0)).run Tryd.prog W = .ok (.bool false) W := fun W l => Lib.run_eql_slice_some_nil W _ _ _ Tryd.underlying23
  have mixed : Tryd.prog.follows Departure.mixedOrders = true := by kernel_rfl
  have hcm' := hcm
  unfold maxLen at hcm'
  have hc2 : cap ≤ 140737488355328 := by omega
  have hlen := dlen_any w h (by omega)
  have HD := Aside0.mk h
  clear h
  go_enter Tryd.func115, Tryd.ntmps115
  go_wp2_with (go_at_call 68; refine hlen.mono ?_)
  rintro e W0 ⟨rfl, k, hW0⟩
  have hD0 : Dc W0 b (some ⟨g, 0, none⟩) l cap lr lasts room left := by rw [hW0]; exact HD.out
  have hg0 : W0.heap[g]? = some (.cells cur 5 (0, 0)) := by rw [hW0]; exact hg
  have c0 := hD0.c0
  have c1 := hD0.c1
  have f0 := hD0.f 0
  have f1 := hD0.f 1
  have HW0 := Lib.hid hW0
  have HD0 := Aside0.mk hD0
  have hbW := hD0.lt
  clear hW0 hlen hD0
  have hwn : IntKind.i64.wrap (n : Int) = n := by rw [IntKind.wrap_i64]; omega
  rcases Nat.eq_zero_or_pos l with rfl | hl0
  all_goals go_wp2_with (go_at_call 114; refine (Tryd.Buffer_tryGrow_none_at b 0 _ _ cap n _ c0 hlc hcm hroom).mono ?_; rintro e w' ⟨rfl, rfl⟩)
  · go_region_with_o (
      go_at_call 137
      refine (Tryd.bytes_growSlice_row g 0 cap n cur _ ?_ hcs hlc hn hlim hc2 h1).mono ?_
      exact hg0
      rintro e w2 ⟨cap2, cells, rfl, hN, hcsz, htk, hcap2, hcm2, hbel⟩
      have hD2 : Dc w2 b (some ⟨g, 0, none⟩) 0 cap lr lasts room left := (hbel.block b hbW).trans HD0.out
      have d0 := hD2.c0
      have d1 := hD2.c1
      have e0 := hD2.f 0
      have e1 := hD2.f 1)
    all_goals (
      go_wp2
      go_ret
      have hgr : w.grownBy w2 (some b) := grown_below (w1 := w'.drew) (by rw [HW0.out]; exact ⟨rfl, rfl, rfl, Nat.le_refl _, fun _ _ _ => rfl⟩) hbel
      have hne : w'.heap.size ≠ b := by omega
      have hsz : w.heap.size ≤ w'.heap.size := by rw [HW0.out]; exact Nat.le_refl _
      refine ⟨rfl, w'.heap.size, cap2, cells, ?_, blk_far (blk_far (blk_far hN (p := ⟨b, 0, none⟩) hne _) (p := ⟨b, 1, none⟩) hne _) (p := ⟨b, 0, none⟩) hne _, hsz, hcsz, htk, hcap2, hcm2, grown_set (grown_set (grown_set hgr 0 _) 1 _) 0 _⟩
      first | exact ((hD2.s0 _ _ _).s1).s0 _ _ _ | (rw [Nat.zero_add]; exact ((hD2.s0 _ _ _).s1).s0 _ _ _))
  · go_region_with_o (
      go_at_call 137
      refine (Tryd.bytes_growSlice_row g l cap n cur _ ?_ hcs hlc hn hlim hc2 h1).mono ?_
      exact hg0
      rintro e w2 ⟨cap2, cells, rfl, hN, hcsz, htk, hcap2, hcm2, hbel⟩
      have hD2 : Dc w2 b (some ⟨g, 0, none⟩) l cap lr lasts room left := (hbel.block b hbW).trans HD0.out
      have d0 := hD2.c0
      have d1 := hD2.c1
      have e0 := hD2.f 0
      have e1 := hD2.f 1)
    all_goals (
      go_wp2
      go_ret
      have hgr : w.grownBy w2 (some b) := grown_below (w1 := w'.drew) (by rw [HW0.out]; exact ⟨rfl, rfl, rfl, Nat.le_refl _, fun _ _ _ => rfl⟩) hbel
      have hne : w'.heap.size ≠ b := by omega
      have hsz : w.heap.size ≤ w'.heap.size := by rw [HW0.out]; exact Nat.le_refl _
      refine ⟨rfl, w'.heap.size, cap2, cells, ?_, blk_far (blk_far (blk_far hN (p := ⟨b, 0, none⟩) hne _) (p := ⟨b, 1, none⟩) hne _) (p := ⟨b, 0, none⟩) hne _, hsz, hcsz, htk, hcap2, hcm2, grown_set (grown_set (grown_set hgr 0 _) 1 _) 0 _⟩
      first | exact ((hD2.s0 _ _ _).s1).s0 _ _ _ | (rw [Nat.zero_add]; exact ((hD2.s0 _ _ _).s1).s0 _ _ _))
end Go.Proofs.YtbbhjceelghadaaDoor.K
end

section
-- from DiskH
namespace Go.Proofs.YtbbhjceelghadaaDoor.K
open Go Go.RowKit Go.Proofs.YtbbhjceelghadaaDoorW.PrintWords Go.Proofs.YtbbhjceelghadaaDoorW.PrintLast Go.Proofs.YtbbhjceelghadaaDoorW.PrintMore Go.Proofs.YtbbhjceelghadaaDoor.My
set_option maxHeartbeats 12800000 in
set_option maxRecDepth 100000 in
theorem dgrow_small {b n : Nat} {lr lasts room left : Int} (w : World) (h : Dc w b none 0 0 lr lasts room left) (hn : 1 ≤ n) (h64 : n ≤ 64) :
    Calls Tryd.prog 115 #[.pointer (some ⟨b, 0, none⟩), .int .i64 n] w fun e w' => e = .returned (.int .i64 0) ∧ ∃ g2 cap2 cells, Dc w' b (some ⟨g2, 0, none⟩) n cap2 lr lasts room left ∧ w'.heap[g2]? = some (.cells cells 5 (0, 0)) ∧ w.heap.size ≤ g2 ∧
      cells.size = cap2 ∧ n ≤ cap2 ∧ cap2 ≤ maxLen ∧ w.grownBy w' (some b) := by
  have mixed : Tryd.prog.follows Departure.mixedOrders = true := by kernel_rfl
  have hinf : (Tryd.prog.info? 5).map (fun i => (i.zero, i.size, i.bytes)) = some (some (.int .u8 0), 1, 1) := by kernel_rfl
  obtain ⟨i0, hi, hz0, hz1, hz2⟩ := info_parts hinf
  obtain ⟨M, hM⟩ : ∃ M, M = madeCells (Value.int .u8 0).cells ((64 : Int).toNat * i0.size) := ⟨_, rfl⟩
  have hMs : M.size = 64 := by rw [hM, size_madeCells, hz1]; rfl
  have hmk : ∀ W : World, (Instr.makeSlice 23 (.int .i64 (n : Int)) (.int .i64 64)).run Tryd.prog W = .ok (.slice (some ⟨W.heap.size, 0, none⟩) n 64) (W.alloc (.cells M 5)) := fun W => by
    have h := run_makeSlice (P := Tryd.prog) W 23 5 i0 (.int .u8 0) Tryd.underlying23 hi hz0 .i64 .i64 (n : Int) 64 (by omega) (by omega) (by rw [hz1]; decide) (by rw [hz2]; decide) (by decide)
    rw [← hM] at h
    simpa using h
  clear hM
  have hnil : ∀ W, (binOp .eql 23 (.slice none 0 0) (.slice none 0 0)).run Tryd.prog W = .ok (.bool true) W := fun W => Lib.run_eql_slice_nil_nil W _ _ Tryd.underlying23
  have hlen := dlen_any w h (by omega)
  have HD := Aside0.mk h
  clear h
  go_enter Tryd.func115, Tryd.ntmps115
  go_wp2_with (go_at_call 68; refine hlen.mono ?_)
  rintro e W0 ⟨rfl, k, hW0⟩
  have hD0 : Dc W0 b none 0 0 lr lasts room left := by rw [hW0]; exact HD.out
  have c0 := hD0.c0
  have c1 := hD0.c1
  have f0 := hD0.f 0
  have f1 := hD0.f 1
  have hbW0 := hD0.lt
  have c0a : ∀ o, (W0.alloc o).cell? ⟨b, 0, none⟩ = some (.slice none 0 0) := fun o => (World.cell?_of_block (a := ⟨b, 0, none⟩) (Below.heap_alloc W0 o b hbW0)).trans c0
  have f0a : ∀ o, (W0.alloc o).frozen? ⟨b, 0, none⟩ = false := fun o => (World.frozen?_of_block (a := ⟨b, 0, none⟩) (Below.heap_alloc W0 o b hbW0)).trans f0
  have HW0 := Lib.hid hW0
  have HD0 := Aside0.mk hD0
  clear hW0 hlen hD0
  go_wp2_with (go_at_call 114; refine (Tryd.Buffer_tryGrow_none_at b 0 _ 0 0 n _ c0 (Nat.le_refl _) (Nat.zero_le _) (by omega)).mono ?_; rintro e w' ⟨rfl, rfl⟩)
  go_ret
  have hne : w'.heap.size ≠ b := by omega
  have hsz : w.heap.size ≤ w'.heap.size := by rw [HW0.out]; exact Nat.le_refl _
  have hgr : w.grownBy w' (some b) := by rw [HW0.out]; exact ⟨rfl, rfl, rfl, Nat.le_refl _, fun _ _ _ => rfl⟩
  have hs1 : (w'.setCell ⟨b, 0, none⟩ (.slice (some ⟨w'.heap.size, 0, none⟩) n 64)).heap.size = w'.heap.size := by simp [World.setCell]
  refine ⟨rfl, w'.heap.size, 64, M, (HD0.out.s0 _ _ _).below (below_alloc (Below.refl _ _) _), ?_, hsz, hMs, h64, by unfold maxLen; omega, grown_below (grown_set hgr 0 _) (below_alloc (Below.refl _ _) _)⟩
  exact heap_new' hs1.symm
set_option maxHeartbeats 12800000 in
set_option maxRecDepth 100000 in
theorem dgrow_big {b n : Nat} {lr lasts room left : Int} (w : World) (h : Dc w b none 0 0 lr lasts room left) (hn : 64 < n) (hlim : n ≤ 140737488355328) :
    Calls Tryd.prog 115 #[.pointer (some ⟨b, 0, none⟩), .int .i64 n] w fun e w' => e = .returned (.int .i64 0) ∧ ∃ g2 cap2 cells, Dc w' b (some ⟨g2, 0, none⟩) n cap2 lr lasts room left ∧ w'.heap[g2]? = some (.cells cells 5 (0, 0)) ∧ w.heap.size ≤ g2 ∧
      cells.size = cap2 ∧ n ≤ cap2 ∧ cap2 ≤ maxLen ∧ w.grownBy w' (some b) := by
  have mixed : Tryd.prog.follows Departure.mixedOrders = true := by kernel_rfl
  have hnil : ∀ W, (binOp .eql 23 (.slice none 0 0) (.slice none 0 0)).run Tryd.prog W = .ok (.bool true) W := fun W => Lib.run_eql_slice_nil_nil W _ _ Tryd.underlying23
  have hlen := dlen_any w h (by omega)
  have HD := Aside0.mk h
  clear h
  go_enter Tryd.func115, Tryd.ntmps115
  go_wp2_with (go_at_call 68; refine hlen.mono ?_)
  rintro e W0 ⟨rfl, k, hW0⟩
  have hD0 : Dc W0 b none 0 0 lr lasts room left := by rw [hW0]; exact HD.out
  have c0 := hD0.c0
  have c1 := hD0.c1
  have f0 := hD0.f 0
  have f1 := hD0.f 1
  have hbW := hD0.lt
  have HW0 := Lib.hid hW0
  have HD0 := Aside0.mk hD0
  clear hW0 hlen hD0
  have hwn : IntKind.i64.wrap (n : Int) = n := by rw [IntKind.wrap_i64]; omega
  go_wp2_with (go_at_call 114; refine (Tryd.Buffer_tryGrow_none_at b 0 _ 0 0 n _ c0 (Nat.le_refl _) (Nat.zero_le _) (by omega)).mono ?_; rintro e w' ⟨rfl, rfl⟩)
  go_region_with_o (
      go_at_call 137
      refine (Tryd.bytes_growSlice_nil n _ (by omega) hlim).mono ?_
      rintro e w2 ⟨cap2, cells, rfl, hN, hcsz, hcap2, hcm2, hbel⟩
      have hD2 : Dc w2 b none 0 0 lr lasts room left := (hbel.block b hbW).trans HD0.out
      have d0 := hD2.c0
      have d1 := hD2.c1
      have e0 := hD2.f 0
      have e1 := hD2.f 1)
  all_goals (
      go_wp2
      go_ret
      have hgr : w.grownBy w2 (some b) := grown_below (w1 := w'.drew) (by rw [HW0.out]; exact ⟨rfl, rfl, rfl, Nat.le_refl _, fun _ _ _ => rfl⟩) hbel
      have hne : w'.heap.size ≠ b := by omega
      have hsz : w.heap.size ≤ w'.heap.size := by rw [HW0.out]; exact Nat.le_refl _
      exact ⟨rfl, w'.heap.size, cap2, cells, ((hD2.s0 _ _ _).s1).s0 _ _ _, blk_far (blk_far (blk_far hN (p := ⟨b, 0, none⟩) hne _) (p := ⟨b, 1, none⟩) hne _) (p := ⟨b, 0, none⟩) hne _, hsz, hcsz, hcap2, hcm2, grown_set (grown_set (grown_set hgr 0 _) 1 _) 0 _⟩)
end Go.Proofs.YtbbhjceelghadaaDoor.K
end

section
-- from DiskW
namespace Go.Proofs.YtbbhjceelghadaaDoor.K
open Go Go.RowKit Go.Proofs.YtbbhjceelghadaaDoorW.PrintWords Go.Proofs.YtbbhjceelghadaaDoorW.PrintLast Go.Proofs.YtbbhjceelghadaaDoorW.PrintMore Go.Proofs.YtbbhjceelghadaaDoor.My
/-- The row of a disk's buffer: where it lies, what is in it. -/
def Rw (w : World) (b : Nat) (ao : Option Addr) (row : Option Nat) (cap : Nat) (bs : List UInt8) : Prop :=
  (ao = none ∧ row = none ∧ cap = 0 ∧ bs = []) ∨ ∃ g cur, ao = some ⟨g, 0, none⟩ ∧ row = some g ∧ g ≠ b ∧ w.heap[g]? = some (.cells cur 5 (0, 0)) ∧ bs.length ≤ cap ∧ cap ≤ maxLen ∧ cur.size = cap ∧ cur.toList.take bs.length = Lib.byteCells bs
/-- A disk: its bytes, how many last, its room, the calls left. -/
def Dk (w : World) (b : Nat) (row : Option Nat) (bs : List UInt8) (lasts room left : Int) : Prop :=
  ∃ ao cap lr, Dc w b ao bs.length cap lr lasts room left ∧ Rw w b ao row cap bs
/-- All old blocks but the disk's own and its row's stay. -/
structure Kb (b : Nat) (row : Option Nat) (w w' : World) : Prop where
  os : w'.os = w.os
  tape : w'.tape = w.tape
  output : w'.output = w.output
  size : w.heap.size ≤ w'.heap.size
  block : ∀ k, k < w.heap.size → k ≠ b → some k ≠ row → w'.heap[k]? = w.heap[k]?
/-- The row behind: the old one, or a new one. -/
def Nw (w : World) (row row' : Option Nat) : Prop := ∀ k, row' = some k → row = some k ∨ w.heap.size ≤ k
theorem Kb.of_grown {b : Nat} {row : Option Nat} {w w' : World} (h : w.grownBy w' (some b)) : Kb b row w w' :=
  ⟨h.os, h.tape, h.output, h.size, fun k hk hb _ => h.block k hk (fun e => hb (by injection e))⟩
theorem Kb.refl (b : Nat) (row : Option Nat) (w : World) : Kb b row w w := ⟨rfl, rfl, rfl, Nat.le_refl _, fun _ _ _ _ => rfl⟩
theorem Kb.trans {b : Nat} {row row' : Option Nat} {w w1 w2 : World} (h : Kb b row w w1) (hn : Nw w row row') (k : Kb b row' w1 w2) : Kb b row w w2 :=
  ⟨k.os.trans h.os, k.tape.trans h.tape, k.output.trans h.output, Nat.le_trans h.size k.size, fun i hi hb hr => (k.block i (Nat.lt_of_lt_of_le hi h.size) hb (fun e => (hn i e.symm).elim (fun h' => hr h'.symm) (fun h' => by omega))).trans (h.block i hi hb hr)⟩
theorem Kb.below {B b : Nat} {row : Option Nat} {w w' : World} (h : Kb b row w w') (hB : B ≤ w.heap.size) (hb : B ≤ b) (hr : ∀ k, row = some k → B ≤ k) : Below B w w' :=
  ⟨h.os, h.tape, h.output, h.size, fun k hk => h.block k (by omega) (by omega) (fun e => by have := hr k e.symm; omega)⟩
theorem Kb.setRow {b g : Nat} {w w1 : World} (h : Kb b (some g) w w1) (cs : Array Value) : Kb b (some g) w (w1.setRow g cs) :=
  ⟨h.os, h.tape, h.output, by simpa [World.setRow] using h.size, fun k hk hb hr => (setRow_other _ _ _ _ (fun e => hr (by rw [e]))).trans (h.block k hk hb hr)⟩
theorem src_cells {w : World} {a : Addr} {l : List UInt8} (h : kb.C w (some a) l.length l) : ∀ (j : Nat) (v : Value), (Lib.byteCells l)[j]? = some v → w.cell? (a.add j) = some v := by
  intro j v hj
  have hlt : j < l.length := by
    have := (List.getElem?_eq_some_iff.1 hj).1
    rwa [Lib.byteCells_length] at this
  obtain ⟨ad, e, hc⟩ := C_at h j hlt
  cases e
  rw [hc, ← hj]
  simp [Lib.byteCells, List.getElem?_eq_getElem hlt]
/-- Written: the row with the new bytes behind the old ones. -/
theorem written {w : World} {b g cap : Nat} {lr lasts room left : Int} {cur : Array Value} {bs l : List UInt8} (hD : Dc w b (some ⟨g, 0, none⟩) (bs.length + l.length) cap lr lasts room left) (hg : w.heap[g]? = some (.cells cur 5 (0, 0))) (hgb : g ≠ b) (hcs : cur.size = cap) (hcm : cap ≤ maxLen) (htk : cur.toList.take bs.length = Lib.byteCells bs) (hn : bs.length + l.length ≤ cap) :
    Dk (w.setRow g (cur.toList.take bs.length ++ Lib.byteCells l ++ cur.toList.drop (bs.length + (Lib.byteCells l).length)).toArray) b (some g) (bs ++ l) lasts room left := by
  have hcl : cur.toList.length = cap := (Array.length_toList (xs := cur)).trans hcs
  have hl : (cur.toList.take bs.length).length = bs.length := by rw [List.length_take]; omega
  refine ⟨some ⟨g, 0, none⟩, cap, lr, ?_, .inr ⟨g, _, rfl, rfl, hgb, setRow_heap w g cur _ _ (0, 0) hg, by rw [List.length_append]; exact hn, hcm, ?_, ?_⟩⟩
  · rw [List.length_append]
    exact (setRow_other _ _ _ _ (Ne.symm hgb)).trans hD
  · simp only [List.size_toArray, List.length_append, hl, List.length_drop, hcl, Lib.byteCells_length]; omega
  · rw [List.toList_toArray, List.take_append_of_le_length (by simp only [List.length_append, hl, Lib.byteCells_length]; exact Nat.le_refl _), List.take_of_length_le (by simp only [List.length_append, hl, Lib.byteCells_length]; exact Nat.le_refl _), htk]
    simp [Lib.byteCells]
end Go.Proofs.YtbbhjceelghadaaDoor.K
end

section
-- from DiskX
namespace Go.Proofs.YtbbhjceelghadaaDoor.K
open Go Go.RowKit Go.Proofs.YtbbhjceelghadaaDoorW.PrintWords Go.Proofs.YtbbhjceelghadaaDoorW.PrintLast Go.Proofs.YtbbhjceelghadaaDoorW.PrintMore Go.Proofs.YtbbhjceelghadaaDoor.My
theorem kb_row {b g : Nat} {row : Option Nat} {w w1 : World} (hn : Nw w row (some g)) (h : w.grownBy w1 (some b)) (cs : Array Value) : Kb b row w (w1.setRow g cs) :=
  (Kb.of_grown h).trans (fun k e => by cases e; exact hn g rfl) ((Kb.refl b (some g) w1).setRow cs)
def WPost (w : World) (b : Nat) (row : Option Nat) (bs l : List UInt8) (lasts room left : Int) (e : Ending) (w' : World) : Prop :=
  e = .returned (.tuple #[.int .i64 l.length, .nilIface]) ∧ ∃ row', Dk w' b row' (bs ++ l) lasts room left ∧ Nw w row row' ∧ Kb b row w w'
set_option maxHeartbeats 6400000 in
set_option maxRecDepth 100000 in
/-- There is room: at a row that lies there. -/
theorem dwrite_room {w : World} {b g2 cap2 : Nat} {lr lasts room left : Int} {cur2 : Array Value} {bs l : List UInt8} {a : Addr} {c : Nat} (hD : Dc w b (some ⟨g2, 0, none⟩) bs.length cap2 lr lasts room left) (hg : w.heap[g2]? = some (.cells cur2 5 (0, 0))) (hgb : g2 ≠ b) (hcs : cur2.size = cap2) (hcm : cap2 ≤ maxLen) (htk : cur2.toList.take bs.length = Lib.byteCells bs)
    (hC : kb.C w (some a) l.length l) (hab : a.block ≠ b) (hn : 0 < l.length) (hfit : bs.length + l.length ≤ cap2) :
    Calls Tryd.prog 69 #[.pointer (some ⟨b, 0, none⟩), .slice (some a) l.length c] w (WPost w b (some g2) bs l lasts room left) := by
  have hinfo : (Tryd.prog.info? 5).map (·.size) = some 1 := by kernel_rfl
  have c2 := hD.c2
  have f2 := hD.f 2
  have hD1 := hD.s2 0
  have hg1 := blk_far hg (p := ⟨b, 2, none⟩) hgb (.int .i8 0)
  have hgr1 : w.grownBy (w.setCell ⟨b, 2, none⟩ (.int .i8 0)) (some b) := Lib.grownBy_setCell w b 2 _
  unfold WPost
  go_enter Tryd.func69, Tryd.ntmps69
  go_wp2_with (go_at_call 114; refine (Tryd.Buffer_tryGrow_room_at b 0 _ bs.length cap2 l.length _ hD1.c0 (hD1.f 0) (by omega) hcm (by omega)).mono ?_)
  rintro e W1 ⟨rfl, hW1⟩
  have hD2 : Dc W1 b (some ⟨g2, 0, none⟩) (bs.length + l.length) cap2 0 lasts room left := by rw [hW1]; exact hD1.s0 _ _ _
  have hg2 : W1.heap[g2]? = some (.cells cur2 5 (0, 0)) := by rw [hW1]; exact blk_far hg1 (p := ⟨b, 0, none⟩) hgb _
  have hgr : w.grownBy W1 (some b) := by rw [hW1]; exact grown_set hgr1 0 _
  have hnw : Nw w (some g2) (some g2) := fun k e => .inl e
  clear hW1 hD1 hg1 hgr1 c2 f2 hD hg
  have hg2b := hgb; have hcs2 := hcs; have hcm2 := hcm; have htk2 := htk
  clear hgb hcs hcm htk
  have d0 := hD2.c0
  have hsrc1 : ∀ (j : Nat) (v : Value), (Lib.byteCells l)[j]? = some v → W1.cell? (a.add j) = some v := fun j v hj => hgr.cell (src_cells hC j v hj) (by rw [Lib.block_add]; exact fun e => hab (Option.some.inj e))
  have hcp := run_copy_row (P := Tryd.prog) W1 23 23 3 5 g2 bs.length l.length (cap2 - bs.length) a l.length c cur2 5 (Lib.byteCells l) Tryd.underlying23 hinfo hg2 (by rw [Lib.byteCells_length]; exact (Nat.min_self _).symm) hsrc1 (by rw [Lib.byteCells_length]; omega) (Lib.byteCells_one l)
  rw [show goInt (Lib.byteCells l).length = .int .i64 (l.length : Int) from by rw [Lib.byteCells_length]; rfl] at hcp
  have hne : ¬ cap2 = bs.length := by omega
  have HW := Aside0.mk (written hD2 hg2 hg2b hcs2 hcm2 htk2 hfit)
  have HN := Aside0.mk hnw
  have HG := Aside0.mk hgr
  unfold maxLen at hcm2
  clear hC hsrc1 hgr hnw htk2
  go_wp2
  go_ret2
  refine ⟨rfl, some g2, by rw [← List.append_assoc]; exact HW.out, HN.out, ?_⟩
  exact kb_row HN.out HG.out _
/-- grow, wherever there is no room. -/
theorem dgrow_any {w : World} {b cap2 n : Nat} {lr lasts room left : Int} {ao : Option Addr} {row : Option Nat} {bs : List UInt8} (hD : Dc w b ao bs.length cap2 lr lasts room left) (hR : Rw w b ao row cap2 bs) (hn : 1 ≤ n) (hroom : cap2 - bs.length < n) (hlim : bs.length + n ≤ 140737488355328) :
    Calls Tryd.prog 115 #[.pointer (some ⟨b, 0, none⟩), .int .i64 n] w fun e w' => e = .returned (.int .i64 bs.length) ∧ ∃ g2 cap2 cells, Dc w' b (some ⟨g2, 0, none⟩) (bs.length + n) cap2 lr lasts room left ∧ w'.heap[g2]? = some (.cells cells 5 (0, 0)) ∧ w.heap.size ≤ g2 ∧
      cells.size = cap2 ∧ cells.toList.take bs.length = Lib.byteCells bs ∧ bs.length + n ≤ cap2 ∧ cap2 ≤ maxLen ∧ w.grownBy w' (some b) := by
  rcases hR with ⟨rfl, _, rfl, rfl⟩ | ⟨g2, cur2, rfl, _, _, hg, hlc, hcm, hcs, htk⟩
  · have key : ∀ {e : Ending} {w' : World}, (e = .returned (.int .i64 0) ∧ ∃ g2 cap2 cells, Dc w' b (some ⟨g2, 0, none⟩) n cap2 lr lasts room left ∧ w'.heap[g2]? = some (.cells cells 5 (0, 0)) ∧ w.heap.size ≤ g2 ∧ cells.size = cap2 ∧ n ≤ cap2 ∧ cap2 ≤ maxLen ∧ w.grownBy w' (some b)) →
        (e = .returned (.int .i64 ([] : List UInt8).length) ∧ ∃ g2 cap2 cells, Dc w' b (some ⟨g2, 0, none⟩) (([] : List UInt8).length + n) cap2 lr lasts room left ∧ w'.heap[g2]? = some (.cells cells 5 (0, 0)) ∧ w.heap.size ≤ g2 ∧
      cells.size = cap2 ∧ cells.toList.take ([] : List UInt8).length = Lib.byteCells [] ∧ ([] : List UInt8).length + n ≤ cap2 ∧ cap2 ≤ maxLen ∧ w.grownBy w' (some b)) := by
      rintro e w' ⟨rfl, g2, cap2, cells, q1, q2, q3, q4, q5, q6, q7⟩
      exact ⟨rfl, g2, cap2, cells, by simpa using q1, q2, q3, q4, by simp [Lib.byteCells], by simpa using q5, q6, q7⟩
    by_cases h64 : n ≤ 64
    · exact (dgrow_small w hD hn h64).mono (fun _ _ h => key h)
    · exact (dgrow_big w hD (by omega) (by simpa using hlim)).mono (fun _ _ h => key h)
  · refine (dgrow_row w hD hg hlc hcm hcs (by rw [htk]; exact Lib.byteCells_one bs) hn hroom hlim).mono ?_
    rintro e w' ⟨rfl, g2, cap2, cells, q1, q2, q3, q4, q5, q6, q7, q8⟩
    exact ⟨rfl, g2, cap2, cells, q1, q2, q3, q4, q5.trans htk, q6, q7, q8⟩
end Go.Proofs.YtbbhjceelghadaaDoor.K
end

section
-- from DiskY
namespace Go.Proofs.YtbbhjceelghadaaDoor.K
open Go Go.RowKit Go.Proofs.YtbbhjceelghadaaDoorW.PrintWords Go.Proofs.YtbbhjceelghadaaDoorW.PrintLast Go.Proofs.YtbbhjceelghadaaDoorW.PrintMore Go.Proofs.YtbbhjceelghadaaDoor.My
set_option maxHeartbeats 6400000 in
set_option maxRecDepth 100000 in
/-- There is no room: the row is a new one. -/
theorem dwrite_grow {w : World} {b cap : Nat} {lr lasts room left : Int} {ao : Option Addr} {row : Option Nat} {bs l : List UInt8} {a : Addr} {c : Nat} (hD : Dc w b ao bs.length cap lr lasts room left) (hR : Rw w b ao row cap bs)
    (hC : kb.C w (some a) l.length l) (hab : a.block ≠ b) (hn : 0 < l.length) (hroom : cap - bs.length < l.length) (hlim : bs.length + l.length ≤ 140737488355328) :
    Calls Tryd.prog 69 #[.pointer (some ⟨b, 0, none⟩), .slice (some a) l.length c] w (WPost w b row bs l lasts room left) := by
  have hinfo : (Tryd.prog.info? 5).map (·.size) = some 1 := by kernel_rfl
  obtain ⟨hlc, hcm⟩ : bs.length ≤ cap ∧ cap ≤ maxLen := by
    rcases hR with ⟨_, _, rfl, rfl⟩ | ⟨_, _, _, _, _, _, h1, h2, _⟩
    · exact ⟨Nat.le_refl _, Nat.zero_le _⟩
    · exact ⟨h1, h2⟩
  have c2 := hD.c2
  have f2 := hD.f 2
  have hD1 := hD.s2 0
  have hR1 : Rw (w.setCell ⟨b, 2, none⟩ (.int .i8 0)) b ao row cap bs := by
    rcases hR with h | ⟨g, cur, h1, h2, h3, h4, h5⟩
    · exact .inl h
    · exact .inr ⟨g, cur, h1, h2, h3, blk_far h4 (p := ⟨b, 2, none⟩) h3 _, h5⟩
  have hgr1 : w.grownBy (w.setCell ⟨b, 2, none⟩ (.int .i8 0)) (some b) := Lib.grownBy_setCell w b 2 _
  have hgrow := dgrow_any hD1 hR1 (n := l.length) (by omega) hroom hlim
  have hsz1 := hgr1.size
  have hbw := hD.lt
  unfold WPost
  go_enter Tryd.func69, Tryd.ntmps69
  go_wp2_with (go_at_call 114; refine (Tryd.Buffer_tryGrow_none_at b 0 _ bs.length cap l.length _ hD1.c0 hlc hcm hroom).mono ?_; rintro e w' ⟨rfl, hw'⟩; subst hw')
  clear hD hR hR1 c2 f2 hD1
  go_wp2_with (go_at_call 115; refine hgrow.mono ?_)
  rintro e W1 ⟨rfl, g2, cap2, cur2, hD2, hg2, hnew, hcs2, htk2, hfit, hcm2, hgr2⟩
  have hgr : w.grownBy W1 (some b) := Lib.grownBy_trans hgr1 hgr2
  have hg2b : g2 ≠ b := by omega
  have hnw : Nw w row (some g2) := fun k e => .inr (by cases e; omega)
  clear hgrow hgr1 hgr2 hnew hcm
  have d0 := hD2.c0
  have hsrc1 : ∀ (j : Nat) (v : Value), (Lib.byteCells l)[j]? = some v → W1.cell? (a.add j) = some v := fun j v hj => hgr.cell (src_cells hC j v hj) (by rw [Lib.block_add]; exact fun e => hab (Option.some.inj e))
  have hcp := run_copy_row (P := Tryd.prog) W1 23 23 3 5 g2 bs.length l.length (cap2 - bs.length) a l.length c cur2 5 (Lib.byteCells l) Tryd.underlying23 hinfo hg2 (by rw [Lib.byteCells_length]; exact (Nat.min_self _).symm) hsrc1 (by rw [Lib.byteCells_length]; omega) (Lib.byteCells_one l)
  rw [show goInt (Lib.byteCells l).length = .int .i64 (l.length : Int) from by rw [Lib.byteCells_length]; rfl] at hcp
  have hne : ¬ cap2 = bs.length := by omega
  have HW := Aside0.mk (written hD2 hg2 hg2b hcs2 hcm2 htk2 hfit)
  have HN := Aside0.mk hnw
  have HG := Aside0.mk hgr
  unfold maxLen at hcm2
  clear hC hsrc1 hgr hnw htk2
  go_wp2
  go_ret2
  refine ⟨rfl, some g2, by rw [← List.append_assoc]; exact HW.out, HN.out, ?_⟩
  exact kb_row HN.out HG.out _
set_option maxHeartbeats 6400000 in
set_option maxRecDepth 100000 in
/-- No bytes. -/
theorem dwrite_none {w : World} {b cap : Nat} {lr lasts room left : Int} {ao : Option Addr} {row : Option Nat} {bs : List UInt8} {A : Option Addr} {c : Nat} (hD : Dc w b ao bs.length cap lr lasts room left) (hR : Rw w b ao row cap bs) :
    Calls Tryd.prog 69 #[.pointer (some ⟨b, 0, none⟩), .slice A 0 c] w (WPost w b row bs [] lasts room left) := by
  have hinfo : (Tryd.prog.info? 5).map (·.size) = some 1 := by kernel_rfl
  obtain ⟨hlc, hcm⟩ : bs.length ≤ cap ∧ cap ≤ maxLen := by
    rcases hR with ⟨_, _, rfl, rfl⟩ | ⟨_, _, _, _, _, _, h1, h2, _⟩
    · exact ⟨Nat.le_refl _, Nat.zero_le _⟩
    · exact ⟨h1, h2⟩
  have hce : ∀ d dLen dCap W, (Builtin.copy_ #[23, 23] 3 #[.slice d dLen dCap, .slice A 0 c]).run Tryd.prog W = .ok (goInt 0) W := fun d dLen dCap W => run_copy_none W 23 23 3 5 d A dLen dCap 0 c Tryd.underlying23 hinfo (by simp)
  have c2 := hD.c2
  have f2 := hD.f 2
  have hD1 := hD.s2 0
  have hR1 : Rw (w.setCell ⟨b, 2, none⟩ (.int .i8 0)) b ao row cap bs := by
    rcases hR with h | ⟨g, cur, h1, h2, h3, h4, h5⟩
    · exact .inl h
    · exact .inr ⟨g, cur, h1, h2, h3, blk_far h4 (p := ⟨b, 2, none⟩) h3 _, h5⟩
  have hgr1 : w.grownBy (w.setCell ⟨b, 2, none⟩ (.int .i8 0)) (some b) := Lib.grownBy_setCell w b 2 _
  unfold WPost
  go_enter Tryd.func69, Tryd.ntmps69
  go_wp2_with (go_at_call 114; refine (Tryd.Buffer_tryGrow_room_at b 0 _ bs.length cap 0 _ hD1.c0 (hD1.f 0) hlc hcm (Nat.zero_le _)).mono ?_)
  rintro e W1 ⟨rfl, hW1⟩
  have hD2 : Dc W1 b ao bs.length cap 0 lasts room left := by rw [hW1]; exact hD1.s0 _ _ _
  have hR2 : Rw W1 b ao row cap bs := by
    rw [hW1]
    rcases hR1 with h | ⟨g, cur, h1, h2, h3, h4, h5⟩
    · exact .inl h
    · exact .inr ⟨g, cur, h1, h2, h3, blk_far h4 (p := ⟨b, 0, none⟩) h3 _, h5⟩
  have hgr : w.grownBy W1 (some b) := by rw [hW1]; exact grown_set hgr1 0 _
  clear hW1 hD1 hR1 hgr1 c2 f2 hD hR
  have HF := Aside0.mk (And.intro (show Dk W1 b row (bs ++ []) lasts room left from by rw [List.append_nil]; exact ⟨ao, cap, 0, hD2, hR2⟩) (Kb.of_grown (row := row) hgr))
  rcases hR2 with ⟨rfl, rfl, rfl, rfl⟩ | ⟨g, cur, rfl, rfl, _, _, _, _, _, _⟩
  · have d0 : W1.cell? ⟨b, 0, none⟩ = some (.slice none 0 0) := hD2.c0
    clear hD2 hgr
    go_wp2
    all_goals (go_ret2; exact ⟨rfl, _, (by first | exact HF.out.1 | simpa using HF.out.1), fun k e => .inl e, HF.out.2⟩)
  · have d0 := hD2.c0
    clear hD2 hgr
    unfold maxLen at hcm
    go_wp2
    all_goals (go_ret2; exact ⟨rfl, _, (by first | exact HF.out.1 | simpa using HF.out.1), fun k e => .inl e, HF.out.2⟩)
/-- (*bytes.Buffer).Write, of a disk's buffer. -/
theorem dwrite_any {w : World} {b : Nat} {row : Option Nat} {bs l : List UInt8} {lasts room left : Int} {A : Option Addr} {c : Nat} (h : Dk w b row bs lasts room left) (hC : kb.C w A l.length l) (hab : ∀ a, A = some a → 0 < l.length → a.block ≠ b) (hlim : bs.length + l.length ≤ 140737488355328) :
    Calls Tryd.prog 69 #[.pointer (some ⟨b, 0, none⟩), .slice A l.length c] w (WPost w b row bs l lasts room left) := by
  obtain ⟨ao, cap, lr, hD, hR⟩ := h
  rcases Nat.eq_zero_or_pos l.length with h0 | h0
  · obtain rfl := List.eq_nil_of_length_eq_zero h0
    exact dwrite_none hD hR
  · obtain ⟨a, rfl, _⟩ := C_at hC 0 h0
    by_cases hr : cap - bs.length < l.length
    · exact dwrite_grow hD hR hC (hab a rfl h0) h0 hr hlim
    · rcases hR with ⟨_, _, rfl, rfl⟩ | ⟨g, cur, rfl, rfl, h3, h4, h5, h6, h7, h8⟩
      · exact absurd hr (by simp; omega)
      · exact dwrite_room hD h4 h3 h7 h6 h8 hC (hab a rfl h0) h0 (by omega)
end Go.Proofs.YtbbhjceelghadaaDoor.K
end

section
-- from DiskZ
namespace Go.Proofs.YtbbhjceelghadaaDoor.K
open Go Go.RowKit Go.Proofs.YtbbhjceelghadaaDoorW.PrintWords Go.Proofs.YtbbhjceelghadaaDoorW.PrintLast Go.Proofs.YtbbhjceelghadaaDoorW.PrintMore Go.Proofs.YtbbhjceelghadaaDoor.My
theorem Kb.grown0 {b : Nat} (w : World) : w.grownBy w (some b) := ⟨rfl, rfl, rfl, Nat.le_refl _, fun _ _ _ => rfl⟩
theorem Rw.kept {w w' : World} {b : Nat} {ao : Option Addr} {row : Option Nat} {cap : Nat} {bs : List UInt8} (h : Rw w b ao row cap bs) (hg : w.grownBy w' (some b)) : Rw w' b ao row cap bs := by
  rcases h with h | ⟨g, cur, h1, h2, h3, h4, h5⟩
  · exact .inl h
  · exact .inr ⟨g, cur, h1, h2, h3, (hg.block g (blk_lt h4) (fun e => h3 (by injection e))).trans h4, h5⟩
theorem Rw.take {w : World} {b : Nat} {ao : Option Addr} {row : Option Nat} {cap : Nat} {bs : List UInt8} (h : Rw w b ao row cap bs) (n : Nat) : Rw w b ao row cap (bs.take n) := by
  rcases h with ⟨h1, h2, h3, rfl⟩ | ⟨g, cur, h1, h2, h3, h4, h5, h6, h7, h8⟩
  · exact .inl ⟨h1, h2, h3, List.take_nil⟩
  · refine .inr ⟨g, cur, h1, h2, h3, h4, by rw [List.length_take]; omega, h6, h7, ?_⟩
    rw [List.length_take, ← List.take_take, h8]
    simp [Lib.byteCells, List.map_take]
set_option maxHeartbeats 3200000 in
theorem dreset_any {w : World} {b cap : Nat} {lr lasts room left : Int} {ao : Option Addr} {row : Option Nat} {bs : List UInt8} (hD : Dc w b ao bs.length cap lr lasts room left) (hR : Rw w b ao row cap bs) :
    Calls Tryd.prog 136 #[.pointer (some ⟨b, 0, none⟩)] w fun e w' => e = .returned (.tuple #[]) ∧ Dk w' b row [] lasts room left ∧ w.grownBy w' (some b) := by
  have HR := Aside0.mk hR
  have HD := Aside0.mk hD
  have c0 := hD.c0
  have c1 := hD.c1
  have c2 := hD.c2
  have f0 := hD.f 0
  have f1 := hD.f 1
  have f2 := hD.f 2
  clear hD hR
  rcases HR.out with ⟨rfl, rfl, rfl, rfl⟩ | ⟨g, cur, rfl, rfl, _, _, h5, h6, _, _⟩
  · go_enter Tryd.func136, Tryd.ntmps136
    go_wp2
    go_end0
    have hg := grown_set (grown_set (grown_set (b := b) (Kb.grown0 w) 0 (.slice none 0 0)) 1 (.int .i64 0)) 2 (.int .i8 0)
    exact ⟨rfl, ⟨none, 0, 0, ((HD.out.s0 none 0 0).s1).s2 0, HR.out.kept hg⟩, hg⟩
  · unfold maxLen at h6
    go_enter Tryd.func136, Tryd.ntmps136
    go_wp2
    go_end0
    have hg := grown_set (grown_set (grown_set (b := b) (Kb.grown0 w) 0 (.slice (some ⟨g, 0, none⟩) 0 cap)) 1 (.int .i64 0)) 2 (.int .i8 0)
    exact ⟨rfl, ⟨some ⟨g, 0, none⟩, cap, 0, ((HD.out.s0 (some ⟨g, 0, none⟩) 0 cap).s1).s2 0, (HR.out.take 0).kept hg⟩, hg⟩
set_option maxHeartbeats 3200000 in
/-- (*bytes.Buffer).Truncate: a front. -/
theorem dtrunc_any {w : World} {b n : Nat} {row : Option Nat} {bs : List UInt8} {lasts room left : Int} (h : Dk w b row bs lasts room left) (hn : n ≤ bs.length) (hbs : bs.length ≤ 140737488355328) :
    Calls Tryd.prog 116 #[.pointer (some ⟨b, 0, none⟩), .int .i64 n] w fun e w' => e = .returned (.tuple #[]) ∧ Dk w' b row (bs.take n) lasts room left ∧ w.grownBy w' (some b) := by
  obtain ⟨ao, cap, lr, hD, hR⟩ := h
  rcases Nat.eq_zero_or_pos n with rfl | h0
  · have hr := dreset_any hD hR
    go_enter Tryd.func116, Tryd.ntmps116
    go_wp2_with (go_at_call 136; refine hr.mono ?_; rintro e w' ⟨rfl, h1, h2⟩)
    refine bodyPost_ret (results_none rfl _ _ _) rfl ?_
    exact ⟨rfl, h1, h2⟩
  · rcases hR with ⟨rfl, rfl, rfl, rfl⟩ | ⟨g, cur, rfl, rfl, h3, h4, h5, h6, h7, h8⟩
    · exact absurd hn (by simp; omega)
    · have HR := Aside0.mk (show Rw w b (some ⟨g, 0, none⟩) (some g) cap bs from .inr ⟨g, cur, rfl, rfl, h3, h4, h5, h6, h7, h8⟩)
      unfold maxLen at h6
      have c2 := hD.c2
      have f2 := hD.f 2
      have hD1 := hD.s2 0
      have c0 := hD1.c0
      have c1 := hD1.c1
      have f0 := hD1.f 0
      have hlen := dlen_any _ hD1 (by omega)
      have HD := Aside0.mk hD1
      clear hD hD1 h3 h4 h7 h8
      go_enter Tryd.func116, Tryd.ntmps116
      go_wp2_with (go_at_call 68; refine hlen.mono ?_)
      rintro e W1 ⟨rfl, k, hW1⟩
      have hD2 : Dc W1 b (some ⟨g, 0, none⟩) bs.length cap 0 lasts room left := by rw [hW1]; exact HD.out
      have hg1 : w.grownBy W1 (some b) := by rw [hW1]; exact ⟨rfl, rfl, rfl, (Lib.grownBy_setCell w b 2 (.int .i8 0)).size, (Lib.grownBy_setCell w b 2 (.int .i8 0)).block⟩
      have d0 := hD2.c0
      have d1 := hD2.c1
      have e0 := hD2.f 0
      have HD2 := Aside0.mk hD2
      have HG := Aside0.mk hg1
      have mixed : Tryd.prog.follows Departure.mixedOrders = true := by kernel_rfl
      have hwn : IntKind.i64.wrap (n : Int) = n := by rw [IntKind.wrap_i64]; omega
      clear hD2 hg1 hlen hW1 c0 c1 c2 f0 f2
      go_wp2
      go_region_o
      all_goals (
        go_wp2
        go_end0
        have hg := grown_set (w1 := W1.drew) ⟨HG.out.os, HG.out.tape, HG.out.output, HG.out.size, HG.out.block⟩ 0 (.slice (some ⟨g, 0, none⟩) n cap)
        have hl : (bs.take n).length = n := by rw [List.length_take]; omega
        refine ⟨rfl, ⟨some ⟨g, 0, none⟩, cap, 0, ?_, (HR.out.take n).kept hg⟩, hg⟩
        rw [hl]
        exact Dc.s0 (w := W1.drew) HD2.out _ _ _)
end Go.Proofs.YtbbhjceelghadaaDoor.K
end

section
-- from DiskF
namespace Go.Proofs.YtbbhjceelghadaaDoor.K
open Go Go.RowKit Go.Proofs.YtbbhjceelghadaaDoorW.PrintWords Go.Proofs.YtbbhjceelghadaaDoorW.PrintLast Go.Proofs.YtbbhjceelghadaaDoorW.PrintMore Go.Proofs.YtbbhjceelghadaaDoor.My
attribute [local go_sem] max2_int min2_int max_two min_two
set_option maxHeartbeats 1600000 in
theorem dleave_any {w : World} {b n : Nat} {row : Option Nat} {bs : List UInt8} {lasts room left : Int} (h : Dk w b row bs lasts room left) (hn : n ≤ bs.length) (hbs : bs.length ≤ 140737488355328) :
    Calls Tryd.prog 71 #[.pointer (some ⟨b, 0, none⟩), .int .i64 n] w fun e w' => e = .returned (.tuple #[]) ∧ Dk w' b row (bs.take n) (mn lasts n) room left ∧ w.grownBy w' (some b) := by
  have ht := dtrunc_any h hn hbs
  obtain ⟨ao, cap, lr, hD, _⟩ := h
  go_enter Tryd.func71, Tryd.ntmps71
  go_wp2_with (go_at_call 116; refine ht.mono ?_)
  rintro e W1 ⟨rfl, hK, hG⟩
  clear ht hD
  have HG := Aside0.mk hG
  obtain ⟨ao1, cap1, lr1, hD1, hR1⟩ := hK
  have c3 := hD1.c3
  have f3 := hD1.f 3
  have HD := Aside0.mk hD1
  have HR := Aside0.mk hR1
  clear hD1 hR1 hG
  go_wp2
  all_goals (
    go_end0
    refine ⟨rfl, ⟨ao1, cap1, lr1, ?_, HR.out.kept (grown_set (b := b) (Kb.grown0 W1) 3 _)⟩, grown_set HG.out 3 _⟩
    unfold mn
    split <;> first | exact HD.out.s3 _ | (exfalso; omega))
end Go.Proofs.YtbbhjceelghadaaDoor.K
end

section
-- from BytesC
namespace Go.Proofs.YtbbhjceelghadaaDoor.My
open Go Go.RowKit Go.Proofs.YtbbhjceelghadaaDoorW.PrintWords
/-- A row of bytes that is new. -/
def OB (w : World) (base : Nat) (v : Value) (l : List UInt8) : Prop := kb.R 5 w base (fun _ => True) v l
theorem OB.below {w w' : World} {base : Nat} {v : Value} {l : List UInt8} (h : OB w base v l) (hb : Below w.heap.size w w') : OB w' base v l := Kd.R_below h hb
theorem OB.reads {w : World} {base : Nat} {v : Value} {l : List UInt8} (h : OB w base v l) : ∃ A c, v = .slice A l.length c ∧ l.length ≤ c ∧ kb.C w A l.length l := Kd.R_reads h
theorem OB.lower {w : World} {base base' : Nat} {v : Value} {l : List UInt8} (h : OB w base v l) (hb : base' ≤ base) : OB w base' v l := Kd.R_lower h hb
theorem OB.nil (w : World) (base : Nat) : OB w base (.slice none 0 0) [] := Kd.R_nil _ _ _ _ _
theorem info_u8' : (Tryd.prog.info? 5).map (fun i => (i.zero, i.size, i.bytes)) = some (some (.int .u8 0), kb.sz, 1) := by kernel_rfl
theorem OB.empty (w : World) : OB (w.alloc (.cells #[] 5)) w.heap.size (.slice (some ⟨w.heap.size, 0, none⟩) 0 0) [] := by
  refine Kd.R_of_own ?_ (fun _ _ => trivial)
  have h := World.ownsRow_lit (base := w.heap.size) (e := 5) (size := 1) w #[] 0 (Nat.le_refl _) (by simp) (by simp)
  simpa [encs] using h
theorem C_none {w : World} {n : Nat} {l : List UInt8} (h : kb.C w none n l) : l = [] ∧ n = 0 := by
  have h1 := h.1
  rcases Nat.eq_zero_or_pos n with h0 | h0
  · subst h0; exact ⟨List.length_eq_zero_iff.1 h1, rfl⟩
  · obtain ⟨ad, e, _⟩ := h.2.2 h0; cases e
set_option maxHeartbeats 1000000 in
theorem bclone_any (A : Option Addr) (c : Nat) (l : List UInt8) (w : World) (hr : kb.C w A l.length l) (hc : l.length ≤ c) (hs : l.length ≤ 140737488355327) :
    Calls Tryd.prog 72 #[.slice A l.length c] w fun e w' => ∃ v, e = .returned v ∧ OB w' w.heap.size v l ∧ Below w.heap.size w w' := by
  cases A with
  | none =>
    obtain ⟨rfl, _⟩ := C_none hr
    have hnil := fun (w : World) (a : Option Addr) (n c : Nat) => Lib.run_eql_slice_nil (P := Tryd.prog) w 23 5 a n c 0 0 Tryd.underlying23
    go_enter Tryd.func72, Tryd.ntmps72
    go_wp2
    go_ret
    exact ⟨_, rfl, OB.nil _ _, Below.refl _ _⟩
  | some ad =>
    have HL := Aside0.mk hr
    clear hr
    have hnil := fun (w : World) (a : Option Addr) (n c : Nat) => Lib.run_eql_slice_nil (P := Tryd.prog) w 23 5 a n c 0 0 Tryd.underlying23
    go_enter Tryd.func72, Tryd.ntmps72
    go_wp2_with (at_builtin; refine Kd.R_append_rows kb (w0 := w) w.heap.size rfl (.tmp 5) (.tmp 6) 23 5 (.int .u8 0) 1 rfl Tryd.underlying23 info_u8' rfl (by decide) (by omega) (.slice (some ⟨w.heap.size, 0, none⟩) 0 0) [] l _ _ _ (fun _ => True) (fun _ => False) rfl rfl (OB.empty w) ?aR (fun _ _ h => h) (fun _ h => h.elim) (fun _ _ => trivial) ?aB ?aS ?aL ?_; (case aR => exact Kd.C_below HL.out (by (repeat (first | exact Below.refl _ _ | apply below_alloc | apply below_drew | apply pw_below_drewN | apply below_bytesWorld | (refine below_set ?_ (by first | assumption | omega)) | refine below_step ?_ (by assumption))))); (case aB => (repeat (first | exact Below.refl _ _ | apply below_alloc | apply below_drew | apply pw_below_drewN | apply below_bytesWorld | (refine below_set ?_ (by first | assumption | omega)) | refine below_step ?_ (by assumption)))); (case aS => exact below_size (by (repeat (first | exact Below.refl _ _ | apply below_alloc | apply below_drew | apply pw_below_drewN | apply below_bytesWorld | (refine below_set ?_ (by first | assumption | omega)) | refine below_step ?_ (by assumption))))); (case aL => simp; omega); intro v1 w2 HO HB hg hat)
    go_ret
    exact ⟨_, rfl, HO, HB⟩
end Go.Proofs.YtbbhjceelghadaaDoor.My
end

section
-- from DiskB
namespace Go.Proofs.YtbbhjceelghadaaDoor.K
open Go Go.RowKit Go.Proofs.YtbbhjceelghadaaDoorW.PrintWords Go.Proofs.YtbbhjceelghadaaDoorW.PrintLast Go.Proofs.YtbbhjceelghadaaDoorW.PrintMore Go.Proofs.YtbbhjceelghadaaDoor.My
theorem Rw.reads {w : World} {b : Nat} {ao : Option Addr} {row : Option Nat} {cap : Nat} {bs : List UInt8} (h : Rw w b ao row cap bs) : kb.C w ao bs.length bs ∧ bs.length ≤ cap ∧ cap ≤ maxLen := by
  rcases h with ⟨rfl, rfl, rfl, rfl⟩ | ⟨g, cur, rfl, rfl, h3, h4, h5, h6, h7, h8⟩
  · exact ⟨Kd.C_nil _ _, Nat.le_refl _, Nat.zero_le _⟩
  · have hR : kb.R 5 w 0 (fun _ => True) (.slice (some ⟨g, 0, none⟩) bs.length cap) bs := by
      refine Kd.R_of_own ?_ (fun _ _ => trivial)
      refine ⟨by simp [encs, Lib.byteCells], .inr ⟨g, cap, cur, rfl, Nat.zero_le _, h4, h5, h6, by rw [h7]; show cap = cap * 1; omega, ?_⟩⟩
      show cur.toList.take (bs.length * 1) = _
      rw [Nat.mul_one, h8]
      simp [encs, Lib.byteCells]
    exact ⟨(kb_R hR).2.2, h5, h6⟩
set_option maxHeartbeats 3200000 in
theorem dbytes_any {w : World} {b cap : Nat} {lr lasts room left : Int} {ao : Option Addr} {row : Option Nat} {bs : List UInt8} (hD : Dc w b ao bs.length cap lr lasts room left) (hR : Rw w b ao row cap bs) :
    Calls Tryd.prog 73 #[.pointer (some ⟨b, 0, none⟩)] w fun e w' => e = .returned (.slice ao bs.length cap) ∧ ∃ n, w' = w.drewN n := by
  have mixed : Tryd.prog.follows Departure.mixedOrders = true := by kernel_rfl
  have c0 := hD.c0
  have c1 := hD.c1
  rcases hR with ⟨rfl, rfl, rfl, rfl⟩ | ⟨g, cur, rfl, rfl, _, _, h5, h6, _, _⟩
  · clear hD
    go_enter Tryd.func73, Tryd.ntmps73
    go_wp2
    go_region_o
    all_goals (go_wp2; go_ret; exact ⟨rfl, 1, rfl⟩)
  · clear hD
    unfold maxLen at h6
    go_enter Tryd.func73, Tryd.ntmps73
    go_wp2
    go_region_o
    all_goals (go_wp2; go_ret; exact ⟨by simp, 1, rfl⟩)
theorem kept_drewN {b : Nat} {row : Option Nat} {w : World} {bs : List UInt8} {lasts room left : Int} (h : Dk w b row bs lasts room left) (n : Nat) : Dk (w.drewN n) b row bs lasts room left := h
set_option maxHeartbeats 3200000 in
/-- Disk.Read: its bytes, new. -/
theorem dread_any {w : World} {b : Nat} {row : Option Nat} {bs : List UInt8} {lasts room left : Int} (h : Dk w b row bs lasts room left) (hbs : bs.length ≤ 140737488355327) :
    Calls Tryd.prog 29 #[.pointer (some ⟨b, 0, none⟩)] w fun e w' => ∃ v, e = .returned v ∧ OB w' w.heap.size v bs ∧ Below w.heap.size w w' := by
  obtain ⟨ao, cap, lr, hD, hR⟩ := h
  have hb := dbytes_any hD hR
  obtain ⟨hC, hc, _⟩ := hR.reads
  clear hD hR
  have HC := Aside0.mk hC
  clear hC
  go_enter Tryd.func29, Tryd.ntmps29
  go_wp2_with (go_at_call 73; refine hb.mono ?_)
  rintro e W1 ⟨rfl, k, hW1⟩
  have hbel : Below w.heap.size w W1 := by rw [hW1]; exact pw_below_drewN (Below.refl _ _) k
  have hcl := bclone_any ao cap bs W1 (Kd.C_below HC.out hbel) hc hbs
  have HB := Aside0.mk hbel
  clear hW1 hbel hb
  go_wp2_with (go_at_call 72; refine hcl.mono ?_)
  rintro e w2 ⟨v, rfl, hv, hb2⟩
  have HV := Aside0.mk hv
  have HB2 := Aside0.mk hb2
  clear hcl hv hb2
  go_wp2
  go_ret
  exact ⟨v, rfl, HV.out.lower (below_size HB.out), below_step HB.out HB2.out⟩
end Go.Proofs.YtbbhjceelghadaaDoor.K
end

section
-- from DiskC
namespace Go.Proofs.YtbbhjceelghadaaDoor.K
open Go Go.RowKit Go.Proofs.YtbbhjceelghadaaDoorW.PrintWords Go.Proofs.YtbbhjceelghadaaDoorW.PrintLast Go.Proofs.YtbbhjceelghadaaDoorW.PrintMore Go.Proofs.YtbbhjceelghadaaDoor.My
theorem max2_mx (x y : Int) : Builtin.max2 (.int .i64 x) (.int .i64 y) = pure (.int .i64 (mx x y)) := max2_int _ _ x y
theorem min2_mn (x y : Int) : Builtin.min2 (.int .i64 x) (.int .i64 y) = pure (.int .i64 (mn x y)) := min2_int _ _ x y
attribute [local go_sem] max2_mx min2_mn max_two min_two
set_option maxHeartbeats 6400000 in
set_option maxRecDepth 20000 in
theorem dcrash_any {w : World} {b k : Nat} {row : Option Nat} {bs : List UInt8} {lasts room left : Int} (keep : Int) (h : Dk w b row bs lasts room left) (hbs : bs.length ≤ 140737488355327) (hl0 : 0 ≤ lasts) (hl1 : lasts ≤ bs.length) (hk : (k : Int) = lasts + mn (mx keep 0) (bs.length - lasts)) :
    Calls Tryd.prog 28 #[.pointer (some ⟨b, 0, none⟩), .int .i64 keep] w fun e w' => e = .returned (.tuple #[]) ∧ Dk w' b row (bs.take k) k room (-1) ∧ w.grownBy w' (some b) := by
  have mixed : Tryd.prog.follows Departure.mixedOrders = true := by kernel_rfl
  have HK := Aside0.mk h
  obtain ⟨ao, cap, lr, hD, hR⟩ := h
  have HD := Aside0.mk hD
  have c3 := hD.c3
  have hlen := fun n => dlen_any (w.drewN n) (show Dc (w.drewN n) b ao bs.length cap lr lasts room left from hD) (by omega)
  have hkl : k ≤ bs.length := by unfold mn mx at hk; split at hk <;> split at hk <;> omega
  have hlv := fun n => dleave_any (w := w.drewN n) (kept_drewN HK.out n) hkl (by omega)
  have hw1 : IntKind.i64.wrap ((bs.length : Int) - lasts) = bs.length - lasts := by rw [IntKind.wrap_i64]; omega
  have hw2 : IntKind.i64.wrap (lasts + mn (mx keep 0) ((bs.length : Int) - lasts)) = k := by rw [← hk, IntKind.wrap_i64]; omega
  have HKK := Aside0.mk hk
  clear hD hR hk
  go_enter Tryd.func28, Tryd.ntmps28
  go_wp2
  go_quiet ((go_at_call 68; exact Calls.quiet_of (hlen _)))
  go_wp2_with (go_at_call 71; refine (hlv _).mono ?_)
  rintro e W1 ⟨rfl, hK1, hG1⟩
  have hG2 : w.grownBy W1 (some b) := Lib.grownBy_trans (grown_below (Kb.grown0 w) (pw_below_drewN (Below.refl _ _) nq)) hG1
  have HG := Aside0.mk hG2
  obtain ⟨ao1, cap1, lr1, hD1, hR1⟩ := hK1
  have hkb : (bs.take k).length = k := by rw [List.length_take]; omega
  rw [hkb] at hD1
  have HD1 := Aside0.mk hD1
  have HR1 := Aside0.mk hR1
  have hlen1 := dlen_any W1 hD1 (by omega)
  clear hlv hlen hG1 hG2 hD1 hR1 c3 hw1 hw2 hkb
  go_wp2_with (go_at_call 68; refine hlen1.mono ?_)
  rintro e W2 ⟨rfl, q, hq⟩
  have hD2 : Dc W2 b ao1 k cap1 lr1 (mn lasts k) room left := by rw [hq]; exact HD1.out
  have hG2 : W1.grownBy W2 (some b) := by rw [hq]; exact grown_below (Kb.grown0 _) (pw_below_drewN (Below.refl _ _) q)
  have d3 := hD2.c3
  have d5 := hD2.c5
  have f3 := hD2.f 3
  have f5 := hD2.f 5
  have HD2 := Aside0.mk hD2
  have HG2 := Aside0.mk hG2
  clear hq hlen1 hD2 hG2
  go_wp2
  go_end0
  have hg := grown_set (grown_set HG2.out 3 (.int .i64 k)) 5 (.int .i64 (-1))
  refine ⟨rfl, ⟨ao1, cap1, lr1, ?_, HR1.out.kept hg⟩, Lib.grownBy_trans HG.out hg⟩
  rw [show (bs.take k).length = k by rw [List.length_take]; omega]
  exact (HD2.out.s3 k).s5 (-1)
end Go.Proofs.YtbbhjceelghadaaDoor.K
end

section
-- from DiskN
namespace Go.Proofs.YtbbhjceelghadaaDoor.K
open Go Go.RowKit Go.Proofs.YtbbhjceelghadaaDoorW.PrintWords Go.Proofs.YtbbhjceelghadaaDoorW.PrintLast Go.Proofs.YtbbhjceelghadaaDoorW.PrintMore Go.Proofs.YtbbhjceelghadaaDoor.My
/-- A call fewer. -/
def dec (left : Int) : Int := if 0 < left then left - 1 else left
theorem dec_pos {left : Int} (h : 0 < left) : dec left = left - 1 := if_pos h
theorem dec_neg {left : Int} (h : ¬ 0 < left) : dec left = left := if_neg h
/-- A number of an error, and what became of the world. -/
def EQ (Q : Int → World → Prop) (e : Ending) (w' : World) : Prop := ∃ n : Int, e = .returned (.int .u16 n) ∧ Q n w'
theorem Dk.left_eq {w : World} {b : Nat} {row : Option Nat} {bs : List UInt8} {lasts room left left' : Int} (h : Dk w b row bs lasts room left) (e : left = left') : Dk w b row bs lasts room left' := e ▸ h
theorem Dk.set_left {w : World} {b : Nat} {row : Option Nat} {bs : List UInt8} {lasts room left : Int} (h : Dk w b row bs lasts room left) (x : Int) : Dk (w.setCell ⟨b, 5, none⟩ (.int .i64 x)) b row bs lasts room x := by
  obtain ⟨ao, cap, lr, hD, hR⟩ := h
  exact ⟨ao, cap, lr, hD.s5 x, hR.kept (grown_set (b := b) (Kb.grown0 w) 5 _)⟩
set_option maxHeartbeats 1600000 in
/-- No calls are left. -/
theorem dcall0 {w : World} {b : Nat} {row : Option Nat} {bs : List UInt8} {lasts room left : Int} (v : Value) (h : Dk w b row bs lasts room left) (h0 : left = 0) :
    Calls Tryd.prog 66 #[.pointer (some ⟨b, 0, none⟩), v] w fun e w' => e = .returned (.int .u16 100) ∧ w' = w := by
  subst h0
  obtain ⟨ao, cap, lr, hD, _⟩ := h
  have c5 := hD.c5
  clear hD
  go_enter Tryd.func66, Tryd.ntmps66
  go_wp2
  go_ret
  exact ⟨rfl, rfl⟩
set_option maxHeartbeats 3200000 in
theorem dcall_67 {w : World} {b : Nat} {row : Option Nat} {bs : List UInt8} {lasts room left : Int} (x y : Value) {Q : Int → World → Prop} (h : Dk w b row bs lasts room left) (h0 : left ≠ 0) (hr : left ≤ 9223372036854775807) (hdo : ∀ w1, Dk w1 b row bs lasts room (dec left) → w.grownBy w1 (some b) → Calls Tryd.prog 67 #[x, y] w1 (EQ Q)) :
    Calls Tryd.prog 66 #[.pointer (some ⟨b, 0, none⟩), .func (.func 67) #[] #[x, y]] w (EQ Q) := by
  have HK := Aside0.mk h
  obtain ⟨ao, cap, lr, hD, _⟩ := h
  have c5 := hD.c5
  have f5 := hD.f 5
  clear hD
  have hne : (left == 0) = false := by simpa using h0
  clear h0
  by_cases hp : 0 < left
  · have hdo1 := hdo _ ((HK.out.set_left (left - 1)).left_eq (dec_pos hp).symm) (grown_set (b := b) (Kb.grown0 w) 5 (.int .i64 (left - 1)))
    clear hdo
    go_enter Tryd.func66, Tryd.ntmps66
    go_wp2_with (go_at_call 67; refine hdo1.mono ?_)
    rintro e w2 ⟨n, rfl, hq⟩
    have HQ := Aside0.mk hq
    clear hq hdo1
    go_wp2
    go_ret
    exact ⟨n, rfl, HQ.out⟩
  · have hdo1 := hdo _ (HK.out.left_eq (dec_neg hp).symm) (Kb.grown0 w)
    clear hdo
    go_enter Tryd.func66, Tryd.ntmps66
    go_wp2_with (go_at_call 67; refine hdo1.mono ?_)
    rintro e w2 ⟨n, rfl, hq⟩
    have HQ := Aside0.mk hq
    clear hq hdo1
    go_wp2
    go_ret
    exact ⟨n, rfl, HQ.out⟩
set_option maxHeartbeats 3200000 in
theorem dcall_70 {w : World} {b : Nat} {row : Option Nat} {bs : List UInt8} {lasts room left : Int} (x y : Value) {Q : Int → World → Prop} (h : Dk w b row bs lasts room left) (h0 : left ≠ 0) (hr : left ≤ 9223372036854775807) (hdo : ∀ w1, Dk w1 b row bs lasts room (dec left) → w.grownBy w1 (some b) → Calls Tryd.prog 70 #[x] w1 (EQ Q)) :
    Calls Tryd.prog 66 #[.pointer (some ⟨b, 0, none⟩), .func (.func 70) #[] #[x]] w (EQ Q) := by
  have HK := Aside0.mk h
  obtain ⟨ao, cap, lr, hD, _⟩ := h
  have c5 := hD.c5
  have f5 := hD.f 5
  clear hD
  have hne : (left == 0) = false := by simpa using h0
  clear h0
  by_cases hp : 0 < left
  · have hdo1 := hdo _ ((HK.out.set_left (left - 1)).left_eq (dec_pos hp).symm) (grown_set (b := b) (Kb.grown0 w) 5 (.int .i64 (left - 1)))
    clear hdo
    go_enter Tryd.func66, Tryd.ntmps66
    go_wp2_with (go_at_call 70; refine hdo1.mono ?_)
    rintro e w2 ⟨n, rfl, hq⟩
    have HQ := Aside0.mk hq
    clear hq hdo1
    go_wp2
    go_ret
    exact ⟨n, rfl, HQ.out⟩
  · have hdo1 := hdo _ (HK.out.left_eq (dec_neg hp).symm) (Kb.grown0 w)
    clear hdo
    go_enter Tryd.func66, Tryd.ntmps66
    go_wp2_with (go_at_call 70; refine hdo1.mono ?_)
    rintro e w2 ⟨n, rfl, hq⟩
    have HQ := Aside0.mk hq
    clear hq hdo1
    go_wp2
    go_ret
    exact ⟨n, rfl, HQ.out⟩
end Go.Proofs.YtbbhjceelghadaaDoor.K
end

section
-- from DiskO
namespace Go.Proofs.YtbbhjceelghadaaDoor.K
open Go Go.RowKit Go.Proofs.YtbbhjceelghadaaDoorW.PrintWords Go.Proofs.YtbbhjceelghadaaDoorW.PrintLast Go.Proofs.YtbbhjceelghadaaDoorW.PrintMore Go.Proofs.YtbbhjceelghadaaDoor.My
/-- What an append does to the bytes. -/
def apB (bs l : List UInt8) (room : Int) : List UInt8 := if room - bs.length < l.length then bs else bs ++ l
def apE (bs l : List UInt8) (room : Int) : Int := if room - bs.length < l.length then 100 else 0
/-- A disk behind a call: its row is the old one or a new one; all else stays. -/
def DQ (w : World) (b : Nat) (row : Option Nat) (n : Int) (bs : List UInt8) (lasts room left : Int) (m : Int) (w' : World) : Prop :=
  m = n ∧ ∃ row', Dk w' b row' bs lasts room left ∧ Nw w row row' ∧ Kb b row w w'
theorem DQ.old {w w1 w' : World} {b : Nat} {row : Option Nat} {n : Int} {bs : List UInt8} {lasts room left m : Int} (h : DQ w1 b row n bs lasts room left m w') (hk : Kb b row w w1) : DQ w b row n bs lasts room left m w' := by
  obtain ⟨e, row', h1, h2, h3⟩ := h
  have hn : Nw w row row := fun k e => .inl e
  exact ⟨e, row', h1, fun k e => (h2 k e).imp id (fun h => Nat.le_trans hk.size h), hk.trans hn h3⟩
theorem Kb.of_below {b : Nat} {row : Option Nat} {w w' : World} (h : Below w.heap.size w w') : Kb b row w w' :=
  ⟨h.os, h.tape, h.output, h.size, fun k hk _ _ => h.block k hk⟩
theorem Rw.below {w w' : World} {b : Nat} {ao : Option Addr} {row : Option Nat} {cap : Nat} {bs : List UInt8} (h : Rw w b ao row cap bs) (hb : Below w.heap.size w w') : Rw w' b ao row cap bs := by
  rcases h with h | ⟨g, cur, h1, h2, h3, h4, h5⟩
  · exact .inl h
  · exact .inr ⟨g, cur, h1, h2, h3, (hb.block g (blk_lt h4)).trans h4, h5⟩
theorem Dk.below {w w' : World} {b : Nat} {row : Option Nat} {bs : List UInt8} {lasts room left : Int} (h : Dk w b row bs lasts room left) (hb : Below w.heap.size w w') : Dk w' b row bs lasts room left := by
  obtain ⟨ao, cap, lr, hD, hR⟩ := h
  exact ⟨ao, cap, lr, hD.below hb, hR.below hb⟩
theorem Dk.lt {w : World} {b : Nat} {row : Option Nat} {bs : List UInt8} {lasts room left : Int} (h : Dk w b row bs lasts room left) : b < w.heap.size := by
  obtain ⟨ao, cap, lr, hD, hR⟩ := h
  exact hD.lt
set_option maxHeartbeats 3200000 in
/-- Append's literal. -/
theorem dapp_lit {w : World} {b x y : Nat} {row : Option Nat} {bs l : List UInt8} {lasts room left : Int} {A : Option Addr} {c : Nat} (h : Dk w b row bs lasts room left) (hx : w.cell? ⟨x, 0, none⟩ = some (.slice A l.length c)) (hy : w.cell? ⟨y, 0, none⟩ = some (.pointer (some ⟨b, 0, none⟩)))
    (hC : kb.C w A l.length l) (hab : ∀ a, A = some a → 0 < l.length → a.block ≠ b) (hbs : (bs.length : Int) ≤ room) (hroom : room ≤ 1048576) (hl : l.length ≤ 140737480000000) :
    Calls Tryd.prog 67 #[.pointer (some ⟨x, 0, none⟩), .pointer (some ⟨y, 0, none⟩)] w (EQ (DQ w b row (apE bs l room) (apB bs l room) lasts room left)) := by
  have mixed : Tryd.prog.follows Departure.mixedOrders = true := by kernel_rfl
  have hwr := fun n => dwrite_any (w := w.drewN n) (c := c) (kept_drewN h n) hC hab (by omega)
  have HK := Aside0.mk h
  obtain ⟨ao, cap, lr, hD, hR⟩ := h
  have c4 := hD.c4
  have hlen := fun n => dlen_any (w.drewN n) (show Dc (w.drewN n) b ao bs.length cap lr lasts room left from hD) (by omega)
  have hw1 : IntKind.i64.wrap (room - (bs.length : Int)) = room - bs.length := by rw [IntKind.wrap_i64]; omega
  clear hD hR
  by_cases hp : room - (bs.length : Int) < l.length
  · have hE : apE bs l room = 100 := if_pos hp
    have hB : apB bs l room = bs := if_pos hp
    rw [hE, hB]
    clear hwr hE hB
    go_enter Tryd.func67, Tryd.ntmps67
    go_wp2
    go_quiet ((go_at_call 68; exact Calls.quiet_of (hlen _)))
    go_wp2
    go_ret
    exact ⟨100, rfl, rfl, row, kept_drewN HK.out _, fun k e => .inl e, Kb.of_below (pw_below_drewN (Below.refl _ _) _)⟩
  · have hE : apE bs l room = 0 := if_neg hp
    have hB : apB bs l room = bs ++ l := if_neg hp
    rw [hE, hB]
    clear hE hB
    go_enter Tryd.func67, Tryd.ntmps67
    go_wp2
    go_quiet ((go_at_call 68; exact Calls.quiet_of (hlen _)))
    go_wp2
    go_region_with_o (
      go_at_call 69
      refine (hwr _).mono ?_
      rintro e w1 ⟨rfl, hq⟩)
    all_goals (
      go_wp2
      go_ret
      obtain ⟨row', h1, h2, h3⟩ := hq
      exact ⟨0, rfl, rfl, row', h1, h2, (Kb.of_below (pw_below_drewN (Below.refl _ _) _)).trans (fun k e => .inl e) h3⟩)
theorem C_grown {w w1 : World} {b : Nat} {A : Option Addr} {n : Nat} {l : List UInt8} (h : kb.C w A n l) (hg : w.grownBy w1 (some b)) (hab : ∀ a, A = some a → 0 < l.length → a.block ≠ b) : kb.C w1 A n l :=
  Kd.C_keep (0 : UInt8) h ⟨hg.size, fun i hi hne _ => hg.block i hi (fun e => hne (Option.some.inj e))⟩ (fun a e hn => hab a e (by rw [h.1]; exact hn))
theorem cell_grown {w w1 : World} {b : Nat} {x : Nat} {v : Value} (h : w.cell? ⟨x, 0, none⟩ = some v) (hg : w.grownBy w1 (some b)) (hx : x ≠ b) : w1.cell? ⟨x, 0, none⟩ = some v :=
  hg.cell h (fun e => hx (Option.some.inj e))
set_option maxHeartbeats 3200000 in
/-- Disk.Append. -/
theorem dappend_any {w : World} {b : Nat} {row : Option Nat} {bs l : List UInt8} {lasts room left : Int} {A : Option Addr} {c : Nat} (h : Dk w b row bs lasts room left)
    (hC : kb.C w A l.length l) (hab : ∀ a, A = some a → 0 < l.length → a.block ≠ b) (hbs : (bs.length : Int) ≤ room) (hroom : room ≤ 1048576) (hl : l.length ≤ 140737480000000) (hlf : left ≤ 9223372036854775807) :
    Calls Tryd.prog 26 #[.pointer (some ⟨b, 0, none⟩), .slice A l.length c] w (EQ (DQ w b row (if left = 0 then 100 else apE bs l room) (if left = 0 then bs else apB bs l room) lasts room (dec left))) := by
  generalize hE : (if left = 0 then 100 else apE bs l room) = E
  generalize hB : (if left = 0 then bs else apB bs l room) = B
  have hbel : Below w.heap.size w ((w.alloc (.cells #[.pointer (some ⟨b, 0, none⟩)] 25)).alloc (.cells #[.slice A l.length c] 23)) := ((Below.refl _ _).alloc (Nat.le_refl _) _).alloc (by simp) _
  have hK := h.below hbel
  have hC1 := Kd.C_below hC hbel
  have hy : ((w.alloc (.cells #[.pointer (some ⟨b, 0, none⟩)] 25)).alloc (.cells #[.slice A l.length c] 23)).cell? ⟨w.heap.size, 0, none⟩ = some (.pointer (some ⟨b, 0, none⟩)) := by go_simp
  have hx : ((w.alloc (.cells #[.pointer (some ⟨b, 0, none⟩)] 25)).alloc (.cells #[.slice A l.length c] 23)).cell? ⟨w.heap.size + 1, 0, none⟩ = some (.slice A l.length c) := by go_simp
  have hlt := h.lt
  have HB := Aside0.mk hbel
  obtain ⟨W, hW⟩ : ∃ W, W = (w.alloc (.cells #[.pointer (some ⟨b, 0, none⟩)] 25)).alloc (.cells #[.slice A l.length c] 23) := ⟨_, rfl⟩
  have key : Calls Tryd.prog 66 #[.pointer (some ⟨b, 0, none⟩), .func (.func 67) #[] #[.pointer (some ⟨w.heap.size + 1, 0, none⟩), .pointer (some ⟨w.heap.size, 0, none⟩)]] W (EQ (DQ w b row E B lasts room (dec left))) := by
    rw [← hE, ← hB]
    rw [← hW] at hK hC1 hx hy hbel
    by_cases h0 : left = 0
    · refine (dcall0 _ hK h0).mono ?_
      rintro e w' ⟨rfl, rfl⟩
      exact ⟨100, rfl, by rw [if_pos h0], row, by rw [if_pos h0, h0, show dec 0 = 0 from rfl]; rwa [h0] at hK, fun k e => .inl e, Kb.of_below hbel⟩
    · refine dcall_67 _ _ hK h0 hlf (fun w1 hk1 hg1 => ?_)
      have h1 := dapp_lit (x := w.heap.size + 1) (y := w.heap.size) (c := c) hk1 (cell_grown hx hg1 (by omega)) (cell_grown hy hg1 (by omega)) (C_grown hC1 hg1 hab) hab hbs hroom hl
      refine h1.mono ?_
      rintro e w' ⟨n, rfl, hq⟩
      refine ⟨n, rfl, ?_⟩
      rw [if_neg h0, if_neg h0]
      exact hq.old ((Kb.of_below hbel).trans (fun k e => .inl e) (Kb.of_grown hg1))
  rw [hW] at key
  clear hK hC1 hC hbel h hW hx hy hE hB hl hlf hroom hbs hlt hab
  go_enter Tryd.func26, Tryd.ntmps26
  go_wp2_with (go_at_call 66; refine key.mono ?_)
  rintro e w2 ⟨n, rfl, hq⟩
  have HQ := Aside0.mk hq
  clear hq key
  go_wp2
  go_ret
  exact ⟨n, rfl, HQ.out⟩
set_option maxHeartbeats 3200000 in
/-- Sync's literal. -/
theorem dsync_lit {w : World} {b x : Nat} {row : Option Nat} {bs : List UInt8} {lasts room left : Int} (h : Dk w b row bs lasts room left) (hx : w.cell? ⟨x, 0, none⟩ = some (.pointer (some ⟨b, 0, none⟩))) (hbs : bs.length ≤ 1048576) (hxb : x ≠ b) :
    Calls Tryd.prog 70 #[.pointer (some ⟨x, 0, none⟩)] w (EQ (DQ w b row 0 bs bs.length room left)) := by
  have mixed : Tryd.prog.follows Departure.mixedOrders = true := by kernel_rfl
  have HK := Aside0.mk h
  obtain ⟨ao, cap, lr, hD, hR⟩ := h
  have HD := Aside0.mk hD
  have HR := Aside0.mk hR
  have f3 := hD.f 3
  have hlen := fun n => dlen_any (w.drewN n) (show Dc (w.drewN n) b ao bs.length cap lr lasts room left from hD) (by omega)
  clear hD hR
  go_enter Tryd.func70, Tryd.ntmps70
  go_wp2
  go_region_with_o (
    go_at_call 68
    refine (dlen_any (b := b) (l := bs.length) (ao := ao) (cap := cap) (lr := lr) (lasts := lasts) (room := room) (left := left) _ ?_ (by omega)).mono ?_
    exact HD.out
    rintro e w1 ⟨rfl, q, hq⟩
    have hD2 : Dc w1 b ao bs.length cap lr lasts room left := by rw [hq]; exact HD.out
    have hG2 : w.grownBy w1 (some b) := by rw [hq]; exact grown_below (w1 := w.drew) (by exact ⟨rfl, rfl, rfl, Nat.le_refl _, fun _ _ _ => rfl⟩) (pw_below_drewN (Below.refl _ _) _)
    have hx2 := cell_grown hx hG2 hxb
    have d3 := hD2.c3
    have e3 := hD2.f 3
    have HD2 := Aside0.mk hD2
    have HG2 := Aside0.mk hG2
    clear hq hD2 hG2)
  all_goals (
    go_wp2
    go_ret
    exact ⟨0, rfl, rfl, row, ⟨ao, cap, lr, HD2.out.s3 _, HR.out.kept (grown_set (b := b) HG2.out 3 _)⟩, fun k e => .inl e, Kb.of_grown (grown_set HG2.out 3 _)⟩)
set_option maxHeartbeats 3200000 in
/-- Disk.Sync. -/
theorem dsync_any {w : World} {b : Nat} {row : Option Nat} {bs : List UInt8} {lasts room left : Int} (h : Dk w b row bs lasts room left) (hbs : bs.length ≤ 1048576) (hlf : left ≤ 9223372036854775807) :
    Calls Tryd.prog 27 #[.pointer (some ⟨b, 0, none⟩)] w (EQ (DQ w b row (if left = 0 then 100 else 0) bs (if left = 0 then lasts else bs.length) room (dec left))) := by
  generalize hE : (if left = 0 then 100 else 0 : Int) = E
  generalize hB : (if left = 0 then lasts else (bs.length : Int)) = B
  have hbel : Below w.heap.size w (w.alloc (.cells #[.pointer (some ⟨b, 0, none⟩)] 25)) := (Below.refl _ _).alloc (Nat.le_refl _) _
  have hK := h.below hbel
  have hy : (w.alloc (.cells #[.pointer (some ⟨b, 0, none⟩)] 25)).cell? ⟨w.heap.size, 0, none⟩ = some (.pointer (some ⟨b, 0, none⟩)) := by go_simp
  have hlt := h.lt
  have HB := Aside0.mk hbel
  obtain ⟨W, hW⟩ : ∃ W, W = w.alloc (.cells #[.pointer (some ⟨b, 0, none⟩)] 25) := ⟨_, rfl⟩
  have key : Calls Tryd.prog 66 #[.pointer (some ⟨b, 0, none⟩), .func (.func 70) #[] #[.pointer (some ⟨w.heap.size, 0, none⟩)]] W (EQ (DQ w b row E bs B room (dec left))) := by
    rw [← hE, ← hB]
    rw [← hW] at hK hy hbel
    by_cases h0 : left = 0
    · refine (dcall0 _ hK h0).mono ?_
      rintro e w' ⟨rfl, rfl⟩
      exact ⟨100, rfl, by rw [if_pos h0], row, by rw [if_pos h0, h0, show dec 0 = 0 from rfl]; rwa [h0] at hK, fun k e => .inl e, Kb.of_below hbel⟩
    · refine dcall_70 _ (.bool true) hK h0 hlf (fun w1 hk1 hg1 => ?_)
      have h1 := dsync_lit (x := w.heap.size) hk1 (cell_grown hy hg1 (by omega)) hbs (by omega)
      refine h1.mono ?_
      rintro e w' ⟨n, rfl, hq⟩
      refine ⟨n, rfl, ?_⟩
      rw [if_neg h0, if_neg h0]
      exact hq.old ((Kb.of_below hbel).trans (fun k e => .inl e) (Kb.of_grown hg1))
  rw [hW] at key
  clear hK hbel h hW hy hE hB hlf hbs hlt
  go_enter Tryd.func27, Tryd.ntmps27
  go_wp2_with (go_at_call 66; refine key.mono ?_)
  rintro e w2 ⟨n, rfl, hq⟩
  have HQ := Aside0.mk hq
  clear hq key
  go_wp2
  go_ret
  exact ⟨n, rfl, HQ.out⟩
end Go.Proofs.YtbbhjceelghadaaDoor.K
end

section
-- from DiskQ
namespace Go.Proofs.YtbbhjceelghadaaDoor.K
open Go Go.RowKit Go.Proofs.YtbbhjceelghadaaDoorW.PrintWords Go.Proofs.YtbbhjceelghadaaDoorW.PrintLast Go.Proofs.YtbbhjceelghadaaDoorW.PrintMore Go.Proofs.YtbbhjceelghadaaDoor.My
set_option maxHeartbeats 1600000 in
/-- disk.New: none. -/
theorem dnew_none (room : Int) (w : World) (h : room < 0 ∨ 1048576 < room) : Calls Tryd.prog 25 #[.int .i64 room] w fun e w' => e = .returned (.pointer none) ∧ ∃ k, w' = w.drewN k := by
  rcases h with h | h
  · go_enter Tryd.func25, Tryd.ntmps25
    go_wp2
    go_ret
    exact ⟨rfl, 0, rfl⟩
  · have hd : ¬ room < 0 := by omega
    go_enter Tryd.func25, Tryd.ntmps25
    go_wp2
    go_ret
    exact ⟨rfl, 0, rfl⟩
set_option maxHeartbeats 1600000 in
/-- disk.New: an empty one. -/
theorem dnew_some (room : Int) (w : World) (h0 : 0 ≤ room) (h1 : room ≤ 1048576) : Calls Tryd.prog 25 #[.int .i64 room] w fun e w' => e = .returned (.pointer (some ⟨w.heap.size, 0, none⟩)) ∧ Dk w' w.heap.size none [] 0 room (-1) ∧ Below w.heap.size w w' := by
  go_enter Tryd.func25, Tryd.ntmps25
  go_wp2
  go_ret
  exact ⟨rfl, ⟨none, 0, 0, heap_new' rfl, .inl ⟨rfl, rfl, rfl, rfl⟩⟩, (Below.refl _ _).alloc (Nat.le_refl _) _⟩
end Go.Proofs.YtbbhjceelghadaaDoor.K
end

section
-- from DiskR
namespace Go.Proofs.YtbbhjceelghadaaDoor.K
open Go Go.RowKit Go.Proofs.YtbbhjceelghadaaDoorW.PrintWords Go.Proofs.YtbbhjceelghadaaDoorW.PrintLast Go.Proofs.YtbbhjceelghadaaDoorW.PrintMore Go.Proofs.YtbbhjceelghadaaDoor.My
/-- The document's disk: its cells. -/
def Rc (w : World) (b : Nat) (ao : Option Addr) (l cap : Nat) (lasts room left : Int) : Prop :=
  w.heap[b]? = some (.cells #[.slice ao l cap, .int .i64 lasts, .int .i64 room, .int .i64 left] 46 (0, 0))
section
variable {w : World} {b : Nat} {ao : Option Addr} {l cap : Nat} {lasts room left : Int}
theorem Rc.c0 (h : Rc w b ao l cap lasts room left) : w.cell? ⟨b, 0, none⟩ = some (.slice ao l cap) := (blk_cell h 0).trans rfl
theorem Rc.c1 (h : Rc w b ao l cap lasts room left) : w.cell? ⟨b, 1, none⟩ = some (.int .i64 lasts) := (blk_cell h 1).trans rfl
theorem Rc.c2 (h : Rc w b ao l cap lasts room left) : w.cell? ⟨b, 2, none⟩ = some (.int .i64 room) := (blk_cell h 2).trans rfl
theorem Rc.c3 (h : Rc w b ao l cap lasts room left) : w.cell? ⟨b, 3, none⟩ = some (.int .i64 left) := (blk_cell h 3).trans rfl
theorem Rc.f (h : Rc w b ao l cap lasts room left) (i : Nat) : w.frozen? ⟨b, i, none⟩ = false := blk_frozen h i
theorem Rc.lt (h : Rc w b ao l cap lasts room left) : b < w.heap.size := blk_lt h
theorem Rc.below {w' : World} (h : Rc w b ao l cap lasts room left) (hb : Below w.heap.size w w') : Rc w' b ao l cap lasts room left := heap_below hb h
theorem Rc.s0 (h : Rc w b ao l cap lasts room left) (ao' : Option Addr) (l' cap' : Nat) : Rc (w.setCell ⟨b, 0, none⟩ (.slice ao' l' cap')) b ao' l' cap' lasts room left := blk_put h 0 _ rfl
theorem Rc.s1 (h : Rc w b ao l cap lasts room left) (x : Int) : Rc (w.setCell ⟨b, 1, none⟩ (.int .i64 x)) b ao l cap x room left := blk_put h 1 _ rfl
theorem Rc.s3 (h : Rc w b ao l cap lasts room left) (x : Int) : Rc (w.setCell ⟨b, 3, none⟩ (.int .i64 x)) b ao l cap lasts room x := blk_put h 3 _ rfl
end
def Rk (w : World) (b : Nat) (row : Option Nat) (bs : List UInt8) (lasts room left : Int) : Prop :=
  ∃ ao cap, Rc w b ao bs.length cap lasts room left ∧ Rw w b ao row cap bs
theorem Rw.own {w : World} {b : Nat} {ao : Option Addr} {row : Option Nat} {cap : Nat} {bs : List UInt8} (h : Rw w b ao row cap bs) : kb.R 5 w 0 (fun _ => True) (.slice ao bs.length cap) bs ∧ (Value.slice ao bs.length cap).ownBlock = row := by
  rcases h with ⟨rfl, rfl, rfl, rfl⟩ | ⟨g, cur, rfl, rfl, h3, h4, h5, h6, h7, h8⟩
  · exact ⟨Kd.R_nil _ _ _ _ _, rfl⟩
  · refine ⟨Kd.R_of_own ?_ (fun _ _ => trivial), rfl⟩
    refine ⟨by simp [encs, Lib.byteCells], .inr ⟨g, cap, cur, rfl, Nat.zero_le _, h4, h5, h6, by rw [h7]; show cap = cap * 1; omega, ?_⟩⟩
    show cur.toList.take (bs.length * 1) = _
    rw [Nat.mul_one, h8]
    simp [encs, Lib.byteCells]
theorem Rk.below {w w' : World} {b : Nat} {row : Option Nat} {bs : List UInt8} {lasts room left : Int} (h : Rk w b row bs lasts room left) (hb : Below w.heap.size w w') : Rk w' b row bs lasts room left := by
  obtain ⟨ao, cap, hD, hR⟩ := h
  exact ⟨ao, cap, hD.below hb, hR.below hb⟩
theorem Rk.lt {w : World} {b : Nat} {row : Option Nat} {bs : List UInt8} {lasts room left : Int} (h : Rk w b row bs lasts room left) : b < w.heap.size := by
  obtain ⟨ao, cap, hD, hR⟩ := h
  exact hD.lt
theorem Rk.set_left {w : World} {b : Nat} {row : Option Nat} {bs : List UInt8} {lasts room left : Int} (h : Rk w b row bs lasts room left) (x : Int) : Rk (w.setCell ⟨b, 3, none⟩ (.int .i64 x)) b row bs lasts room x := by
  obtain ⟨ao, cap, hD, hR⟩ := h
  exact ⟨ao, cap, hD.s3 x, hR.kept (grown_set (b := b) (Kb.grown0 w) 3 _)⟩
theorem Rk.left_eq {w : World} {b : Nat} {row : Option Nat} {bs : List UInt8} {lasts room left left' : Int} (h : Rk w b row bs lasts room left) (e : left = left') : Rk w b row bs lasts room left' := e ▸ h
theorem Rk.drewN {b : Nat} {row : Option Nat} {w : World} {bs : List UInt8} {lasts room left : Int} (h : Rk w b row bs lasts room left) (n : Nat) : Rk (w.drewN n) b row bs lasts room left := h
attribute [local go_sem] max2_mx min2_mn max_two min_two
end Go.Proofs.YtbbhjceelghadaaDoor.K
end

section
-- from DiskM
namespace Go.Proofs.YtbbhjceelghadaaDoor.K
open Go Go.RowKit Go.Proofs.YtbbhjceelghadaaDoorW.PrintWords Go.Proofs.YtbbhjceelghadaaDoorW.PrintLast Go.Proofs.YtbbhjceelghadaaDoorW.PrintMore Go.Proofs.YtbbhjceelghadaaDoor.My
/-- A disk: its bytes, how many last, its room, the calls left (below 0: no count). -/
structure DM where
  bs : List UInt8
  lasts : Nat
  room : Nat
  left : Int
structure DM.ok (d : DM) : Prop where
  fit : d.bs.length ≤ d.room
  las : d.lasts ≤ d.bs.length
  room : d.room ≤ 1048576
  lef : d.left ≤ 9223372036854775807
def DM.new (room : Nat) : DM := ⟨[], 0, room, -1⟩
def DM.full (d : DM) (l : List UInt8) : Prop := (d.room : Int) - d.bs.length < l.length
instance (d : DM) (l : List UInt8) : Decidable (d.full l) := by unfold DM.full; infer_instance
def DM.app (d : DM) (l : List UInt8) : DM := if d.left = 0 then d else if d.full l then { d with left := dec d.left } else { d with bs := d.bs ++ l, left := dec d.left }
def DM.appE (d : DM) (l : List UInt8) : Int := if d.left = 0 then 100 else if d.full l then 100 else 0
def DM.sync (d : DM) : DM := if d.left = 0 then d else { d with lasts := d.bs.length, left := dec d.left }
def DM.syncE (d : DM) : Int := if d.left = 0 then 100 else 0
def DM.out (d : DM) (n : Int) : Prop := n < 0 ∨ (d.bs.length : Int) < n
instance (d : DM) (n : Int) : Decidable (d.out n) := by unfold DM.out; infer_instance
def DM.cut (d : DM) (n : Int) : DM := if d.left = 0 then d else if d.out n then { d with left := dec d.left } else { d with bs := d.bs.take n.toNat, lasts := min d.lasts n.toNat, left := dec d.left }
def DM.kept (d : DM) (keep : Int) : Nat := d.lasts + min keep.toNat (d.bs.length - d.lasts)
def DM.crash (d : DM) (keep : Int) : DM := { d with bs := d.bs.take (d.kept keep), lasts := d.kept keep, left := -1 }
def DM.halt (d : DM) (n : Int) : DM := { d with left := max n (-1) }
theorem dec_le {x : Int} (h : x ≤ 9223372036854775807) : dec x ≤ 9223372036854775807 := by unfold dec; split <;> omega
theorem DM.new_ok {room : Nat} (h : room ≤ 1048576) : (DM.new room).ok := ⟨Nat.zero_le _, Nat.zero_le _, h, by show (-1 : Int) ≤ _; omega⟩
theorem DM.app_ok {d : DM} (h : d.ok) (l : List UInt8) : (d.app l).ok := by
  unfold DM.app
  split
  · exact h
  · split
    · exact ⟨h.fit, h.las, h.room, dec_le h.lef⟩
    · rename_i h1
      unfold DM.full at h1
      refine ⟨?_, ?_, h.room, dec_le h.lef⟩
      · show (d.bs ++ l).length ≤ d.room
        rw [List.length_append]
        omega
      · show d.lasts ≤ (d.bs ++ l).length
        have := h.las
        rw [List.length_append]
        omega
theorem DM.sync_ok {d : DM} (h : d.ok) : d.sync.ok := by
  unfold DM.sync
  split
  · exact h
  · exact ⟨h.fit, Nat.le_refl _, h.room, dec_le h.lef⟩
theorem DM.kept_le {d : DM} (h : d.ok) (keep : Int) : d.kept keep ≤ d.bs.length := by
  have := h.las
  unfold DM.kept
  omega
theorem DM.crash_ok {d : DM} (h : d.ok) (keep : Int) : (d.crash keep).ok := by
  have h1 := h.fit
  have h2 := DM.kept_le h keep
  refine ⟨?_, ?_, h.room, by show (-1 : Int) ≤ _; omega⟩
  · show (d.bs.take (d.kept keep)).length ≤ d.room
    rw [List.length_take]
    omega
  · show d.kept keep ≤ (d.bs.take (d.kept keep)).length
    rw [List.length_take]
    omega
/-- The program's disk, the document's. -/
def DD (w : World) (b : Nat) (row : Option Nat) (d : DM) : Prop := Dk w b row d.bs d.lasts d.room d.left ∧ d.ok
def RR (w : World) (b : Nat) (row : Option Nat) (d : DM) : Prop := Rk w b row d.bs d.lasts d.room d.left ∧ d.ok
/-- Behind a call. -/
def DP (v : Value) (w : World) (b : Nat) (row : Option Nat) (d : DM) (e : Ending) (w' : World) : Prop := e = .returned v ∧ ∃ row', DD w' b row' d ∧ Nw w row row' ∧ Kb b row w w'
def RP (v : Value) (w : World) (b : Nat) (row : Option Nat) (d : DM) (e : Ending) (w' : World) : Prop := e = .returned v ∧ ∃ row', RR w' b row' d ∧ Nw w row row' ∧ Kb b row w w'
theorem DD.below {w w' : World} {b : Nat} {row : Option Nat} {d : DM} (h : DD w b row d) (hb : Below w.heap.size w w') : DD w' b row d := ⟨h.1.below hb, h.2⟩
theorem RR.below {w w' : World} {b : Nat} {row : Option Nat} {d : DM} (h : RR w b row d) (hb : Below w.heap.size w w') : RR w' b row d := ⟨h.1.below hb, h.2⟩
theorem keep_eq {lasts len : Nat} {keep : Int} (h : lasts ≤ len) : ((lasts + min keep.toNat (len - lasts) : Nat) : Int) = lasts + mn (mx keep 0) ((len : Int) - lasts) := by unfold mn mx; split <;> split <;> omega
section
variable {w : World} {b : Nat} {row : Option Nat} {d : DM}
theorem of_EQ {w : World} {b : Nat} {row : Option Nat} {n n' : Int} {bs : List UInt8} {lasts room left : Int} {d' : DM} {e : Ending} {w' : World} (h : EQ (DQ w b row n bs lasts room left) e w') (hn : n = n') (hd : bs = d'.bs ∧ lasts = d'.lasts ∧ room = d'.room ∧ left = d'.left) (hok : d'.ok) : DP (.int .u16 n') w b row d' e w' := by
  obtain ⟨m, rfl, rfl, row', h1, h2, h3⟩ := h
  obtain ⟨rfl, rfl, rfl, rfl⟩ := hd
  subst hn
  exact ⟨rfl, row', ⟨h1, hok⟩, h2, h3⟩
theorem app_eq (d : DM) (l : List UInt8) : (if d.left = 0 then 100 else apE d.bs l d.room) = d.appE l ∧ (if d.left = 0 then d.bs else apB d.bs l d.room) = (d.app l).bs ∧ (d.lasts : Int) = (d.app l).lasts ∧ (d.room : Int) = (d.app l).room ∧ dec d.left = (d.app l).left := by
  unfold DM.appE DM.app apE apB DM.full
  by_cases h0 : d.left = 0
  · simp [h0, dec]
  · by_cases h1 : (d.room : Int) - d.bs.length < l.length <;> simp [h0, h1]
theorem sync_eq (d : DM) : (if d.left = 0 then 100 else 0 : Int) = d.syncE ∧ d.bs = d.sync.bs ∧ (if d.left = 0 then (d.lasts : Int) else d.bs.length) = d.sync.lasts ∧ (d.room : Int) = d.sync.room ∧ dec d.left = d.sync.left := by
  unfold DM.syncE DM.sync
  by_cases h0 : d.left = 0 <;> simp [h0, dec]
theorem m_append {l : List UInt8} {A : Option Addr} {c : Nat} (h : DD w b row d) (hC : kb.C w A l.length l) (hab : ∀ a, A = some a → 0 < l.length → a.block ≠ b) (hl : l.length ≤ 140737480000000) :
    Calls Tryd.prog 26 #[.pointer (some ⟨b, 0, none⟩), .slice A l.length c] w (DP (.int .u16 (d.appE l)) w b row (d.app l)) :=
  (dappend_any h.1 hC hab (by have := h.2.fit; omega) (by have := h.2.room; omega) hl h.2.lef).mono fun _ _ hq => of_EQ hq (app_eq d l).1 (app_eq d l).2 (DM.app_ok h.2 l)
theorem m_sync (h : DD w b row d) : Calls Tryd.prog 27 #[.pointer (some ⟨b, 0, none⟩)] w (DP (.int .u16 d.syncE) w b row d.sync) :=
  (dsync_any h.1 (by have := h.2.fit; have := h.2.room; omega) h.2.lef).mono fun _ _ hq => of_EQ hq (sync_eq d).1 (sync_eq d).2 (DM.sync_ok h.2)
theorem m_crash (keep : Int) (h : DD w b row d) : Calls Tryd.prog 28 #[.pointer (some ⟨b, 0, none⟩), .int .i64 keep] w (DP (.tuple #[]) w b row (d.crash keep)) :=
  (dcrash_any (k := d.kept keep) keep h.1 (by have := h.2.fit; have := h.2.room; omega) (Int.natCast_nonneg _) (by have := h.2.las; omega) (keep_eq h.2.las)).mono fun _ _ ⟨he, h1, h2⟩ => ⟨he, row, ⟨h1, DM.crash_ok h.2 keep⟩, fun k e => .inl e, Kb.of_grown h2⟩
theorem m_read (h : DD w b row d) : Calls Tryd.prog 29 #[.pointer (some ⟨b, 0, none⟩)] w fun e w' => ∃ v, e = .returned v ∧ OB w' w.heap.size v d.bs ∧ Below w.heap.size w w' := dread_any h.1 (by have := h.2.fit; have := h.2.room; omega)
theorem m_new (room : Nat) (w : World) (h : room ≤ 1048576) : Calls Tryd.prog 25 #[.int .i64 room] w fun e w' => e = .returned (.pointer (some ⟨w.heap.size, 0, none⟩)) ∧ DD w' w.heap.size none (DM.new room) ∧ Below w.heap.size w w' :=
  (dnew_some room w (Int.natCast_nonneg _) (by omega)).mono fun _ _ ⟨h1, h2, h3⟩ => ⟨h1, ⟨h2, DM.new_ok h⟩, h3⟩
end
/-- A disk of the call's own: it and its row lie behind what there was. -/
structure One (w0 w : World) (b : Nat) (row : Option Nat) (d : DM) : Prop where
  dd : DD w b row d
  blk : w0.heap.size ≤ b
  row : ∀ k, row = some k → w0.heap.size ≤ k
  bel : Below w0.heap.size w0 w
theorem One.step {w0 w w' : World} {b : Nat} {row row' : Option Nat} {d d' : DM} (h : One w0 w b row d) (hd : DD w' b row' d') (hn : Nw w row row') (hk : Kb b row w w') : One w0 w' b row' d' := by
  refine ⟨hd, h.blk, fun k e => (hn k e).elim (fun e' => h.row k e') (fun h' => Nat.le_trans h.bel.size h'), ?_⟩
  have := h.bel.trans (hk.below (B := w0.heap.size) h.bel.size h.blk h.row)
  exact this
theorem One.dp {w0 w w' : World} {b : Nat} {row : Option Nat} {d d' : DM} {v : Value} {e : Ending} (h : One w0 w b row d) (hp : DP v w b row d' e w') : e = .returned v ∧ ∃ row', One w0 w' b row' d' := by
  obtain ⟨he, row', h1, h2, h3⟩ := hp
  exact ⟨he, row', h.step h1 h2 h3⟩
theorem One.below {w0 w w' : World} {b : Nat} {row : Option Nat} {d : DM} (h : One w0 w b row d) (hb : Below w.heap.size w w') : One w0 w' b row d := ⟨h.dd.below hb, h.blk, h.row, h.bel.trans (hb.mono h.bel.size)⟩
theorem One.drewN {w0 w : World} {b : Nat} {row : Option Nat} {d : DM} (h : One w0 w b row d) (n : Nat) : One w0 (w.drewN n) b row d := h.below (pw_below_drewN (Below.refl _ _) n)
theorem One.new {w0 w w' : World} {room : Nat} (h0 : Below w0.heap.size w0 w) (h : DD w' w.heap.size none (DM.new room)) (hb : Below w.heap.size w w') : One w0 w' w.heap.size none (DM.new room) :=
  ⟨h, h0.size, (fun _ e => by cases e), h0.trans (hb.mono h0.size)⟩
end Go.Proofs.YtbbhjceelghadaaDoor.K
end

section
-- from DiskK
namespace Go.Proofs.YtbbhjceelghadaaDoor.K
open Go Go.RowKit Go.Proofs.YtbbhjceelghadaaDoorW.PrintWords Go.Proofs.YtbbhjceelghadaaDoorW.PrintLast Go.Proofs.YtbbhjceelghadaaDoorW.PrintMore Go.Proofs.YtbbhjceelghadaaDoor.My
attribute [local go_sem] max2_mx min2_mn max_two min_two
/-- A literal of bytes, appended. -/
theorem m_append_new {w0 w : World} {b : Nat} {row : Option Nat} {d : DM} (H : One w0 w b row d) (l : List UInt8) (cells : Array Value) (hc : cells.toList = l.map fun x => Value.int .u8 (x.toNat : Int)) (hl : l.length ≤ 140737480000000) (c : Nat) :
    Calls Tryd.prog 26 #[.pointer (some ⟨b, 0, none⟩), .slice (some ⟨w.heap.size, 0, none⟩) l.length c] (w.alloc (.cells cells 5)) fun e w' => e = .returned (.int .u16 (d.appE l)) ∧ ∃ row', One w0 w' b row' (d.app l) := by
  have h1 := H.below (below_alloc (Below.refl _ _) (.cells cells 5))
  have hlt := H.dd.1.lt
  exact (m_append h1.dd (C_new rfl rfl (by omega) hc) (fun a e _ => by cases e; show w.heap.size ≠ b; omega) hl).mono fun _ _ hp => h1.dp hp
set_option maxRecDepth 20000 in
set_option maxHeartbeats 3200000 in
theorem known10 (w0 : World) : Calls Tryd.prog 24 #[] w0 fun e w' => e = .returned (.bool true) ∧ Below w0.heap.size w0 w' := by
  go_enter Tryd.func24, Tryd.ntmps24
  go_wp2_with fail
  refine (m_new 100 w0 (by omega)).mono ?_
  rintro e w1 ⟨rfl, hd1, hb1⟩
  have h1 := One.new (Below.refl _ _) hd1 hb1
  have H1 := Aside0.mk h1
  clear hd1 hb1 h1
  go_wp2_with fail
  refine (m_append_new H1.out [1, 2] _ rfl (by simp) _).mono ?_
  rintro e w2 ⟨rfl, row2, h2⟩
  rw [show (DM.new 100).app [1, 2] = ⟨[1, 2], 0, 100, -1⟩ from rfl] at h2
  have H2 := Aside0.mk h2
  clear h2
  go_wp2_with fail
  refine (m_sync H2.out.dd).mono ?_
  rintro e w3 hp
  obtain ⟨rfl, row3, h3⟩ := H2.out.dp hp
  rw [show (DM.sync ⟨[1, 2], 0, 100, -1⟩) = ⟨[1, 2], 2, 100, -1⟩ from rfl] at h3
  have H3 := Aside0.mk h3
  rw [show (DM.syncE ⟨[1, 2], 0, 100, -1⟩) = 0 from rfl]
  clear h3 hp
  go_wp2_with fail
  refine (m_append_new H3.out [3, 4, 5] _ rfl (by simp) _).mono ?_
  rintro e w4 ⟨rfl, row4, h4⟩
  rw [show (DM.app ⟨[1, 2], 2, 100, -1⟩ [3, 4, 5]) = ⟨[1, 2, 3, 4, 5], 2, 100, -1⟩ from rfl] at h4
  have H4 := Aside0.mk h4
  clear h4
  go_wp2_with fail
  refine (m_crash 1 H4.out.dd).mono ?_
  rintro e w5 hp
  obtain ⟨rfl, row5, h5⟩ := H4.out.dp hp
  rw [show (DM.crash ⟨[1, 2, 3, 4, 5], 2, 100, -1⟩ 1) = ⟨[1, 2, 3], 3, 100, -1⟩ from rfl] at h5
  have H5 := Aside0.mk h5
  clear h5 hp
  go_wp2_with fail
  refine (m_read H5.out.dd).mono ?_
  rintro e w6 ⟨v, rfl, hv, hb6⟩
  obtain ⟨A, c, rfl, _, hC⟩ := hv.reads
  have H6 := Aside0.mk (H5.out.below hb6).bel
  have k1 : (convert 23 9 (.slice A 3 c)).run Tryd.prog w6 = .ok (.string { data := #[1, 2, 3] }) w6 := conv_string (c := c) hC
  clear hv hb6 hC
  simp only [show ([1, 2, 3] : List UInt8).length = 3 from rfl]
  go_wp2_with fail
  refine (dnew_none (-1) w6 (.inl (by omega))).mono ?_
  rintro e w7 ⟨rfl, k, hk⟩
  have H7 := Aside0.mk (H6.out.trans (show Below w0.heap.size w6 w7 by rw [hk]; exact (pw_below_drewN (Below.refl _ _) _).mono H6.out.size))
  clear hk k1
  go_wp2
  go_ret
  exact ⟨rfl, H7.out⟩
end Go.Proofs.YtbbhjceelghadaaDoor.K
end

section
-- from DiskD
namespace Go.Proofs.YtbbhjceelghadaaDoor.K
open Go Go.RowKit Go.Proofs.YtbbhjceelghadaaDoorW.PrintWords Go.Proofs.YtbbhjceelghadaaDoorW.PrintLast Go.Proofs.YtbbhjceelghadaaDoorW.PrintMore Go.Proofs.YtbbhjceelghadaaDoor.My
attribute [local go_sem] max2_mx min2_mn max_two min_two
/-- Two disks of the call's own: the program's, the document's. -/
structure Two (w0 w : World) (b : Nat) (row : Option Nat) (r : Nat) (rr : Option Nat) (d : DM) : Prop where
  dd : DD w b row d
  rk : RR w r rr d
  bel : Below w0.heap.size w0 w
  blk : w0.heap.size ≤ b
  rlk : w0.heap.size ≤ r
  row : ∀ k, row = some k → w0.heap.size ≤ k ∧ k ≠ r ∧ k < w.heap.size ∧ rr ≠ some k
  rrw : ∀ k, rr = some k → w0.heap.size ≤ k ∧ k ≠ b ∧ k < w.heap.size
  ne : b ≠ r
theorem Rw.kb {w w' : World} {b : Nat} {row : Option Nat} {r : Nat} {ao : Option Addr} {rr : Option Nat} {cap : Nat} {bs : List UInt8} (h : Rw w r ao rr cap bs) (hk : Kb b row w w') (h1 : ∀ k, rr = some k → k ≠ b ∧ some k ≠ row) : Rw w' r ao rr cap bs := by
  rcases h with h | ⟨g, cur, e1, e2, h3, h4, h5⟩
  · exact .inl h
  · exact .inr ⟨g, cur, e1, e2, h3, (hk.block g (blk_lt h4) (h1 g e2).1 (h1 g e2).2).trans h4, h5⟩
theorem RR.kb {w w' : World} {b : Nat} {row : Option Nat} {r : Nat} {rr : Option Nat} {d : DM} (h : RR w r rr d) (hk : Kb b row w w') (hr : r ≠ b) (hr2 : some r ≠ row) (h1 : ∀ k, rr = some k → k ≠ b ∧ some k ≠ row) : RR w' r rr d := by
  obtain ⟨⟨ao, cap, hD, hR⟩, hok⟩ := h
  exact ⟨⟨ao, cap, (hk.block r hD.lt hr hr2).trans hD, hR.kb hk h1⟩, hok⟩
theorem DD.kb {w w' : World} {b : Nat} {row : Option Nat} {r : Nat} {rr : Option Nat} {d : DM} (h : DD w r rr d) (hk : Kb b row w w') (hr : r ≠ b) (hr2 : some r ≠ row) (h1 : ∀ k, rr = some k → k ≠ b ∧ some k ≠ row) : DD w' r rr d := by
  obtain ⟨⟨ao, cap, lr, hD, hR⟩, hok⟩ := h
  exact ⟨⟨ao, cap, lr, (hk.block r hD.lt hr hr2).trans hD, hR.kb hk h1⟩, hok⟩
theorem Rw.row_lt {w : World} {b : Nat} {ao : Option Addr} {row : Option Nat} {cap : Nat} {bs : List UInt8} (h : Rw w b ao row cap bs) (k : Nat) (e : row = some k) : k < w.heap.size ∧ k ≠ b := by
  rcases h with ⟨_, h, _⟩ | ⟨g, cur, _, e2, h3, h4, _⟩
  · rw [h] at e; cases e
  · rw [e2] at e; cases e; exact ⟨blk_lt h4, h3⟩
theorem DD.row_lt {w : World} {b : Nat} {row : Option Nat} {d : DM} (h : DD w b row d) (k : Nat) (e : row = some k) : k < w.heap.size ∧ k ≠ b := by
  obtain ⟨⟨ao, cap, lr, hD, hR⟩, hok⟩ := h
  exact hR.row_lt k e
theorem RR.row_lt {w : World} {b : Nat} {row : Option Nat} {d : DM} (h : RR w b row d) (k : Nat) (e : row = some k) : k < w.heap.size ∧ k ≠ b := by
  obtain ⟨⟨ao, cap, hD, hR⟩, hok⟩ := h
  exact hR.row_lt k e
theorem DD.lt {w : World} {b : Nat} {row : Option Nat} {d : DM} (h : DD w b row d) : b < w.heap.size := h.1.lt
theorem RR.lt {w : World} {b : Nat} {row : Option Nat} {d : DM} (h : RR w b row d) : b < w.heap.size := h.1.lt
/-- Between the two calls: the program's disk is ahead. -/
structure Mid (w0 w : World) (b : Nat) (row : Option Nat) (r : Nat) (rr : Option Nat) (d' d : DM) : Prop where
  dd : DD w b row d'
  rk : RR w r rr d
  bel : Below w0.heap.size w0 w
  blk : w0.heap.size ≤ b
  rlk : w0.heap.size ≤ r
  row : ∀ k, row = some k → w0.heap.size ≤ k ∧ k ≠ r ∧ k < w.heap.size ∧ rr ≠ some k
  rrw : ∀ k, rr = some k → w0.heap.size ≤ k ∧ k ≠ b ∧ k < w.heap.size
  ne : b ≠ r
theorem Two.first {w0 w w' : World} {b : Nat} {row : Option Nat} {r : Nat} {rr : Option Nat} {d d' : DM} {v : Value} {e : Ending} (h : Two w0 w b row r rr d) (hp : DP v w b row d' e w') : e = .returned v ∧ ∃ row', Mid w0 w' b row' r rr d' d := by
  obtain ⟨he, row', h1, h2, h3⟩ := hp
  have hrr : ∀ k, rr = some k → k ≠ b ∧ some k ≠ row := fun k e => ⟨(h.rrw k e).2.1, fun e2 => (h.row k e2.symm).2.2.2 e⟩
  refine ⟨he, row', h1, h.rk.kb h3 (Ne.symm h.ne) (fun e2 => (h.row r e2.symm).2.1 rfl) hrr, ?_, h.blk, h.rlk, fun k e => ?_, fun k e => ?_, h.ne⟩
  · exact h.bel.trans (h3.below (B := w0.heap.size) h.bel.size h.blk (fun k e => (h.row k e).1))
  · have hlt := (h1.row_lt k e).1
    rcases h2 k e with h4 | h4
    · exact ⟨(h.row k h4).1, (h.row k h4).2.1, hlt, (h.row k h4).2.2.2⟩
    · have := h.rk.lt
      refine ⟨Nat.le_trans h.bel.size h4, by omega, hlt, fun e2 => ?_⟩
      have := (h.rrw k e2).2.2
      omega
  · have := h.rrw k e
    exact ⟨this.1, this.2.1, Nat.lt_of_lt_of_le this.2.2 h3.size⟩
theorem Mid.second {w0 w w' : World} {b : Nat} {row : Option Nat} {r : Nat} {rr : Option Nat} {d d' : DM} {v : Value} {e : Ending} (h : Mid w0 w b row r rr d' d) (hp : RP v w r rr d' e w') : e = .returned v ∧ ∃ rr', Two w0 w' b row r rr' d' := by
  obtain ⟨he, rr', h1, h2, h3⟩ := hp
  have hrr : ∀ k, row = some k → k ≠ r ∧ some k ≠ rr := fun k e => ⟨(h.row k e).2.1, fun e2 => (h.row k e).2.2.2 e2.symm⟩
  refine ⟨he, rr', h.dd.kb h3 h.ne (fun e2 => (h.rrw b e2.symm).2.1 rfl) hrr, h1, ?_, h.blk, h.rlk, fun k e => ?_, fun k e => ?_, h.ne⟩
  · exact h.bel.trans (h3.below (B := w0.heap.size) h.bel.size h.rlk (fun k e => (h.rrw k e).1))
  · have h4 := h.row k e
    refine ⟨h4.1, h4.2.1, Nat.lt_of_lt_of_le h4.2.2.1 h3.size, fun e2 => ?_⟩
    rcases h2 k e2 with h5 | h5
    · exact h4.2.2.2 h5
    · omega
  · have hlt := (h1.row_lt k e).1
    rcases h2 k e with h4 | h4
    · exact ⟨(h.rrw k h4).1, (h.rrw k h4).2.1, hlt⟩
    · have := h.dd.lt
      exact ⟨Nat.le_trans h.bel.size h4, by omega, hlt⟩
theorem Two.below {w0 w w' : World} {b : Nat} {row : Option Nat} {r : Nat} {rr : Option Nat} {d : DM} (h : Two w0 w b row r rr d) (hb : Below w.heap.size w w') : Two w0 w' b row r rr d :=
  ⟨h.dd.below hb, h.rk.below hb, h.bel.trans (hb.mono h.bel.size), h.blk, h.rlk, fun k e => have q := h.row k e; ⟨q.1, q.2.1, Nat.lt_of_lt_of_le q.2.2.1 hb.size, q.2.2.2⟩, fun k e => have q := h.rrw k e; ⟨q.1, q.2.1, Nat.lt_of_lt_of_le q.2.2 hb.size⟩, h.ne⟩
theorem Mid.below {w0 w w' : World} {b : Nat} {row : Option Nat} {r : Nat} {rr : Option Nat} {d d' : DM} (h : Mid w0 w b row r rr d' d) (hb : Below w.heap.size w w') : Mid w0 w' b row r rr d' d :=
  ⟨h.dd.below hb, h.rk.below hb, h.bel.trans (hb.mono h.bel.size), h.blk, h.rlk, fun k e => have q := h.row k e; ⟨q.1, q.2.1, Nat.lt_of_lt_of_le q.2.2.1 hb.size, q.2.2.2⟩, fun k e => have q := h.rrw k e; ⟨q.1, q.2.1, Nat.lt_of_lt_of_le q.2.2 hb.size⟩, h.ne⟩
theorem DP.blk {v : Value} {w w' : World} {b : Nat} {row : Option Nat} {d : DM} {e : Ending} (h : DP v w b row d e w') {k : Nat} {o : Obj} (hk : w.heap[k]? = some o) (h1 : k ≠ b) (h2 : some k ≠ row) : w'.heap[k]? = some o := by
  obtain ⟨_, row', _, _, h3⟩ := h
  exact (h3.block k (blk_lt hk) h1 h2).trans hk
/-- An Op, by kind. -/
def DM.op (d : DM) (kind : Int) (l : List UInt8) (n : Int) : DM :=
  if kind % 9 = 4 then d.sync else if kind % 9 = 5 then d.sync else if kind % 9 = 6 then d.cut n else if kind % 9 = 7 then d.crash n else if kind % 9 = 8 then d.halt n else d.app l
section
variable {w0 w : World} {b r : Nat} {row rr : Option Nat} {d : DM} {A : Option Addr} {c : Nat} {l : List UInt8}
end
end Go.Proofs.YtbbhjceelghadaaDoor.K
end

section
-- from Came
namespace Go.Proofs.YtbbhjceelghadaaDoor.My
open Go Go.RowKit Go.Deep Go.ChangeShapes Go.WideShapes Go.ChangeAt Go.Proofs.YtbbhjceelghadaaDoorW.PrintWords
/-- A value of type t that came in reads as a v of kind d, of which ok holds and which is no heavier than the datum's bulk. -/
def Came {α : Type} (d : Kd α) (t : TypeId) (ok : α → Prop) (wt : α → Nat) : Prop :=
  ∀ {H : Type} (enc : TypeId × Value → H) (w : World) (fuel : Nat) (cs : List Value) (x : DataW H × List MemPlace), DataW.trod enc Tryd.prog w 0 (fun _ => true) true fuel t cs = some x → ∃ v : α, d.K w v cs ∧ ok v ∧ wt v ≤ Rows.uptoBulk x.1
theorem pick_all {α : Type} [Inhabited α] {n : Nat} {p : Nat → α → Prop} (h : ∀ i, i < n → ∃ x, p i x) : ∃ f : Nat → α, ∀ i, i < n → p i (f i) := by
  classical
  refine ⟨fun i => if h' : i < n then Classical.choose (h i h') else default, fun i hi => ?_⟩
  simp only [dif_pos hi]
  exact Classical.choose_spec (h i hi)
theorem cells_get {w : World} {a : Addr} {n : Nat} {cs : List Value} (h : w.cells? 0 a n = some cs) (i : Nat) (v : Value) (hi : cs[i]? = some v) : w.cell? (a.add i) = some v := by
  obtain ⟨_, hl, hc⟩ := World.cells?_some h
  have hil : i < n := by have := (List.getElem?_eq_some_iff.1 hi).1; omega
  rw [hc i hil]
  exact hi
end Go.Proofs.YtbbhjceelghadaaDoor.My
end

section
-- from CameS
namespace Go.Proofs.YtbbhjceelghadaaDoor.My
open Go Go.RowKit Go.Deep Go.ChangeShapes Go.WideShapes Go.ChangeAt Go.Proofs.YtbbhjceelghadaaDoorW.PrintWords
/-- Nothing in it is too large. -/
def Reach {H : Type} (t : TypeId) (d : DataW H) : Prop := ∀ n ∈ d.weights Tryd.prog t, n ≤ reachBytes
def CameS {α : Type} (d : Kd α) (t : TypeId) (ok : α → Prop) : Prop :=
  ∀ {H : Type} (enc : TypeId × Value → H) (w : World) (fuel : Nat) (cs : List Value) (x : DataW H × List MemPlace), DataW.trod enc Tryd.prog w 0 (fun _ => true) true fuel t cs = some x → Reach t x.1 → ∃ v : α, d.K w v cs ∧ ok v
theorem cameS_of {α : Type} {d : Kd α} {t : TypeId} {ok : α → Prop} {wt : α → Nat} (h : Came d t ok wt) : CameS d t ok := by
  intro H enc w fuel cs x hx _
  obtain ⟨v, h1, h2, _⟩ := h enc w fuel cs x hx
  exact ⟨v, h1, h2⟩
theorem cameS_mono {α : Type} {d : Kd α} {t : TypeId} {ok ok' : α → Prop} (h : CameS d t ok) (hok : ∀ x, ok x → ok' x) : CameS d t ok' := by
  intro H enc w fuel cs x hx hr
  obtain ⟨v, h1, h2⟩ := h enc w fuel cs x hx hr
  exact ⟨v, h1, hok v h2⟩
theorem weights_all {H : Type} {e : TypeId} : ∀ {l : List (DataW H)} {d : DataW H}, d ∈ l → ∀ n ∈ d.weights Tryd.prog e, n ∈ DataW.weightsAll Tryd.prog e l
  | x :: l, d, hd, n, hn => by
    simp only [DataW.weightsAll, List.mem_append]
    rcases List.mem_cons.1 hd with rfl | hd
    · exact .inl hn
    · exact .inr (weights_all hd n hn)
  | [], d, hd, n, hn => by cases hd
theorem cameS_slice {α : Type} [Inhabited α] {d : Kd α} {t e : TypeId} {ok : α → Prop} {B : Nat} (ht : Tryd.prog.underlying t = some (.slice e)) (hc : Tryd.prog.cellsOf e = d.sz) (hB : Tryd.prog.bytesOf e = B) (he : CameS d e ok) :
    CameS (Kd.slice e d) t (fun l => l.length * B ≤ reachBytes ∧ ∀ x ∈ l, ok x) := by
  intro H enc w fuel cs x h hr
  rcases open_slice ht h with ⟨rfl, rfl⟩ | ⟨ad, len, cap, m, n, D, Pl, rfl, _, hl, hmax, hm, rfl, hel⟩
  · exact ⟨[], ⟨none, 0, rfl, Nat.le_refl _, ⟨rfl, by simp, fun h => absurd h (Nat.lt_irrefl 0)⟩⟩, by simp⟩
  · have hlm : len ≤ m := by rw [hm]; simp; exact hl
    have hw : ∀ n, n ∈ (((List.range len).map D).length + ((List.range (m - len)).map fun j => D (len + j)).length) * Tryd.prog.bytesOf e :: (DataW.weightsAll Tryd.prog e ((List.range len).map D) ++ DataW.weightsAll Tryd.prog e ((List.range (m - len)).map fun j => D (len + j))) → n ≤ reachBytes := by
      intro n hn
      refine hr n ?_
      simp only [DataW.weights, ht]
      exact hn
    have one : ∀ i, i < len → ∃ v : α, (∃ cs', w.cells? 0 (ad.add (i * Tryd.prog.cellsOf e)) (Tryd.prog.cellsOf e) = some cs' ∧ d.K w v cs') ∧ ok v := by
      intro i hi
      obtain ⟨cs', h1, h2⟩ := hel i (by omega)
      obtain ⟨v, h3, h4⟩ := he enc w n cs' _ h2 (fun k hk => hw k (List.mem_cons_of_mem _ (List.mem_append_left _ (weights_all (List.mem_map.2 ⟨i, List.mem_range.2 hi, rfl⟩) k hk))))
      exact ⟨v, ⟨cs', h1, h3⟩, h4⟩
    obtain ⟨L, hL⟩ := pick_all one
    have hlen : ((List.range len).map L).length = len := by simp
    refine ⟨(List.range len).map L, ⟨some ad, cap, by rw [hlen], by rw [hlen]; exact hl, ?_⟩, ?_, ?_⟩
    · rw [hlen]
      refine ⟨hlen, by unfold maxLen at hmax; omega, fun _ => ⟨ad, rfl, fun j p hj => ?_⟩⟩
      have hjl : j < len := by have := (List.getElem?_eq_some_iff.1 hj).1; simpa using this
      have hp : p = L j := by
        rw [List.getElem?_map, List.getElem?_range hjl] at hj
        simp only [Option.map_some, Option.some.injEq] at hj
        exact hj.symm
      subst hp
      obtain ⟨⟨cs', h1, h2⟩, _⟩ := hL j hjl
      rw [hc] at h1
      refine ⟨cs', d.K_len h2, h2, fun i u hi => ?_⟩
      have := cells_get h1 i u hi
      rwa [Go.Deep.add_add] at this
    · have h1 := hw _ List.mem_cons_self
      rw [List.length_map, List.length_map, List.length_range, List.length_range, hB] at h1
      rw [hlen]
      exact Nat.le_trans (Nat.mul_le_mul_right B (by omega)) h1
    · intro y hy
      obtain ⟨i, hi, rfl⟩ := List.mem_map.1 hy
      exact (hL i (List.mem_range.1 hi)).2
/-- What a slice argument is. -/
theorem came_CS {α : Type} {d : Kd α} {t e : TypeId} {ok : List α → Prop} (h : CameS (Kd.slice e d) t ok) {H : Type} (enc : TypeId × Value → H) {w : World} {fuel : Nat} {v : Value} {x : DataW H × List MemPlace} (ht : DataW.trod enc Tryd.prog w 0 (fun _ => true) true fuel t v.cells.toList = some x) (hr : Reach t x.1) :
    ∃ (A : Option Addr) (c : Nat) (l : List α), v.cells.toList = [.slice A l.length c] ∧ l.length ≤ c ∧ d.C w A l.length l ∧ ok l := by
  obtain ⟨l, ⟨A, c, h1, h2, h3⟩, h4⟩ := h enc w fuel _ x ht hr
  exact ⟨A, c, l, h1, h2, h3, h4⟩
theorem reach_arg {H : Type} {ts : List TypeId} {ds : List (DataW H)} (h : (DataW.weightsEach Tryd.prog ts ds).all (· ≤ reachBytes) = true) {j : Nat} {t : TypeId} {d : DataW H} (ht : ts[j]? = some t) (hd : ds[j]? = some d) : Reach t d := fun n hn => by
  have := List.all_eq_true.1 h n (DataW.weights_mem_each ht hd n hn)
  simpa using this
theorem reach_num : reachBytes = 140737488351232 := rfl
end Go.Proofs.YtbbhjceelghadaaDoor.My
end

section
-- from DiskI
namespace Go.Proofs.YtbbhjceelghadaaDoor.My
open Go Go.RowKit Go.Deep Go.ChangeShapes Go.WideShapes Go.ChangeAt Go.Proofs.YtbbhjceelghadaaDoorW.PrintWords
/-- An Op: its kind, its bytes, its number. -/
structure SOp where
  k : Int
  b : List UInt8
  n : Int
instance : Inhabited SOp := ⟨⟨0, [], 0⟩⟩
def wtB (_ : UInt8) : Nat := 1
theorem came_byte : Came kb 5 (fun _ => True) wtB := by
  intro H enc w fuel cs x h
  obtain ⟨n, rfl, hx, hw⟩ := DataW.trod_int Tryd.underlying5 h
  refine ⟨UInt8.ofNat n.toNat, ?_, trivial, by rw [hx]; simp [Rows.uptoBulk, wtB]⟩
  show [Value.int .u8 n] = [Value.int .u8 _]
  rw [byte_back hw]
/-- The same, with the form's reach. -/
theorem cameS_kbytes : CameS (Kd.slice 5 kb) 23 (fun l => l.length ≤ 140737488351232) :=
  cameS_mono (cameS_slice (B := 1) Tryd.underlying23 (by kernel_rfl) (by kernel_rfl) (cameS_of came_byte)) (fun l h => by have := h.1; rw [reach_num] at this; omega)
theorem cameS_rows : CameS (Kd.slice 23 (Kd.slice 5 kb)) 22 (fun l => l.length ≤ 140737488351232 ∧ ∀ x ∈ l, x.length ≤ 140737488351232) :=
  cameS_mono (cameS_slice (B := 24) Tryd.underlying22 (by kernel_rfl) (by kernel_rfl) cameS_kbytes) (fun l h => ⟨by have := h.1; rw [reach_num] at this; omega, h.2⟩)
end Go.Proofs.YtbbhjceelghadaaDoor.My
end

section
-- from Region
namespace Go.Proofs.YtbbhjceelghadaaDoor.My
open Go Go.RowKit Go.Proofs.YtbbhjceelghadaaDoorW.PrintWords Go.Proofs.YtbbhjceelghadaaDoorW.PrintLast
def entries (D : List Tmp) (vs : Nat → Value) : List (Nat × Tmp × Value) := (List.range D.length).map fun i => (i, D.getD i 0, vs i)
theorem entries_get {D : List Tmp} {vs : Nat → Value} {i : Nat} (h : i < D.length) : (entries D vs)[i]? = some (i, D.getD i 0, vs i) := by
  unfold entries
  rw [List.getElem?_map, List.getElem?_range h]
  rfl
theorem entries_length (D : List Tmp) (vs : Nat → Value) : (entries D vs).length = D.length := by simp [entries]
theorem entries_set {D : List Tmp} {vs : Nat → Value} {i : Nat} (v : Value) : (entries D vs).set i (i, D.getD i 0, v) = entries D (fun j => if j = i then v else vs j) := by
  apply List.ext_getElem?
  intro j
  by_cases hj : j < D.length
  · by_cases hij : i = j
    · subst hij
      rw [List.getElem?_set_self (by rw [entries_length]; exact hj), entries_get hj, if_pos rfl]
    · rw [List.getElem?_set_ne hij, entries_get hj, entries_get hj, if_neg (Ne.symm hij)]
  · rw [List.getElem?_eq_none (by simp [entries_length]; omega), List.getElem?_eq_none (by rw [entries_length]; omega)]
/-- The places of D other than i do not hold D's i-th. -/
def distinctD (D : List Tmp) : Bool := decide D.Nodup
theorem nodup_getD {D : List Tmp} (h : D.Nodup) {i j : Nat} (hi : i < D.length) (hj : j < D.length) (e : D.getD i 0 = D.getD j 0) : i = j := by
  rw [List.getD_eq_getElem?_getD, List.getD_eq_getElem?_getD, List.getElem?_eq_getElem hi, List.getElem?_eq_getElem hj] at e
  simp only [Option.getD_some] at e
  have hp := List.pairwise_iff_getElem.1 h
  rcases Nat.lt_trichotomy i j with hij | hij | hij
  · exact absurd e (hp i j hi hj hij)
  · exact hij
  · exact absurd e.symm (hp j i hj hi hij)
theorem putSel_congr {b b' : Nat → Bool} : ∀ {L : List (Nat × Tmp × Value)} {a : Act}, (∀ e ∈ L, b e.1 = b' e.1) → putSel a b L = putSel a b' L
  | [], _, _ => rfl
  | e :: L, a, h => by
    unfold putSel
    rw [h e List.mem_cons_self]
    exact putSel_congr (fun x hx => h x (List.mem_cons_of_mem _ hx))
theorem entries_apart {D : List Tmp} {vs : Nat → Value} {i : Nat} (hD : distinctD D = true) (hi : i < D.length) :
    (((entries D vs).take i ++ (entries D vs).drop (i + 1)).all fun e => !(e.1 == i) && !(e.2.1 == D.getD i 0)) = true := by
  have hnd : D.Nodup := of_decide_eq_true hD
  rw [List.all_eq_true]
  intro e he
  obtain ⟨j, hj, hne⟩ : ∃ j, (entries D vs)[j]? = some e ∧ j ≠ i := by
    rcases List.mem_append.1 he with h | h
    · obtain ⟨j, hj⟩ := List.getElem?_of_mem h
      rw [List.getElem?_take] at hj
      split at hj
      · exact ⟨j, hj, by omega⟩
      · cases hj
    · obtain ⟨j, hj⟩ := List.getElem?_of_mem h
      rw [List.getElem?_drop] at hj
      exact ⟨_, hj, by omega⟩
  have hjl : j < D.length := by have := (List.getElem?_eq_some_iff.1 hj).1; rwa [entries_length] at this
  rw [entries_get hjl] at hj
  simp only [Option.some.injEq] at hj
  subst hj
  simp only [Bool.and_eq_true, Bool.not_eq_true', beq_eq_false_iff_ne]
  exact ⟨hne, fun e => hne (nodup_getD hnd hjl hi e)⟩
section
variable {P : Program} {ops : Array Oper} {Q : Exit → Act → World → Prop} {T : Bool × List (List Nat × List Nat)} {B : List Nat}
/-- One operation: whatever has come up before it, if all that it waits for has. -/
def GrowStep (P : Program) (ops : Array Oper) (Q : Exit → Act → World → Prop) (B : List Nat) (D : List Tmp) (R : Nat → Value → World → Prop) (a0 : Act) (w0 : World) (i : Nat) : Prop :=
  ∀ (a : Act) (w : World) (vs : Nat → Value), Below w0.heap.size w0 w → (∀ s, D.contains s = false → a.tmps[s]? = a0.tmps[s]?) →
    (∀ j, (B.getD i 0).testBit j = true → a.tmps[D.getD j 0]? = some (vs j) ∧ R j (vs j) w) →
    ∃ oi, ops[i]? = some oi ∧ oi.dst = some (D.getD i 0) ∧ ∀ K : Act → World → Prop, (∀ v w', R i v w' → Below w.heap.size w w' → K (a.put (some (D.getD i 0)) v) w') →
      if Region.wanted oi (yielded ops a.tmps) = true then Oper.wp P oi a w K Q else K (a.put (some (D.getD i 0)) undef) w
theorem gsteps_nil {D : List Tmp} {R : Nat → Value → World → Prop} {a0 : Act} {w0 : World} : ∀ i ∈ ([] : List Nat), GrowStep P ops Q B D R a0 w0 i := fun _ h => by cases h
theorem gsteps_cons {D : List Tmp} {R : Nat → Value → World → Prop} {a0 : Act} {w0 : World} {i : Nat} {rs : List Nat} (h : GrowStep P ops Q B D R a0 w0 i) (hs : ∀ j ∈ rs, GrowStep P ops Q B D R a0 w0 j) : ∀ j ∈ i :: rs, GrowStep P ops Q B D R a0 w0 j := fun j hj => by
  rcases List.mem_cons.1 hj with rfl | hj
  · exact h
  · exact hs j hj
/-- What stays known while memory grows. -/
def Rm (r : Value → World → Prop) : Prop := ∀ v w w', r v w → Below w.heap.size w w' → r v w'
theorem Rm_eq (t : Value) : Rm (fun v _ => v = t) := fun _ _ _ h _ => h
theorem Rms_nil : ∀ r ∈ ([] : List (Value → World → Prop)), Rm r := fun _ h => by cases h
theorem Rms_cons {r : Value → World → Prop} {rs : List (Value → World → Prop)} (h : Rm r) (hs : ∀ r ∈ rs, Rm r) : ∀ x ∈ r :: rs, Rm x := fun x hx => by
  rcases List.mem_cons.1 hx with rfl | hx
  · exact h
  · exact hs x hx
def RR (Rs : List (Value → World → Prop)) : Nat → Value → World → Prop := fun i => Rs.getD i (fun _ _ => True)
theorem RR_mono {Rs : List (Value → World → Prop)} (h : ∀ r ∈ Rs, Rm r) : ∀ i v w w', RR Rs i v w → Below w.heap.size w w' → RR Rs i v w' := by
  intro i v w w' hr hb
  unfold RR at *
  rcases Nat.lt_or_ge i Rs.length with hl | hl
  · have e : Rs.getD i (fun _ _ => True) = Rs[i] := by rw [List.getD_eq_getElem?_getD, List.getElem?_eq_getElem hl]; rfl
    rw [e] at hr ⊢
    exact h _ (List.getElem_mem hl) v w w' hr hb
  · rw [List.getD_eq_getElem?_getD, List.getElem?_eq_none hl]
    trivial
theorem grow_region {id : Nat} {a0 : Act} {w0 : World} (D : List Tmp) (R : Nat → Value → World → Prop) (hm : P.follows .mixedOrders = true)
    (hT : rtab .any ops = T) (hw : waitsOk T.2 B = true) (hk : baseOk T.2 (List.range ops.size) = true) (hD : distinctD D = true) (hDn : D.length = ops.size)
    (hin : (D.all fun t => Nat.ble (t + 1) a0.tmps.size) = true) (hBn : ((List.range ops.size).all fun i => Nat.ble (B.getD i 0) (2 ^ ops.size - 1)) = true)
    (hmono : ∀ i v w w', R i v w → Below w.heap.size w w' → R i v w')
    (hs : ∀ i ∈ List.range ops.size, GrowStep P ops Q B D R a0 w0 i)
    (hend : ∀ (vs : Nat → Value) (w : World), Below w0.heap.size w0 w → (∀ i, i < ops.size → R i (vs i) w) → Q .normal (putSel a0 (fun _ => true) (entries D vs)) w) :
    (Code.region id ops true).wp P Q a0 w0 := by
  have hTl : T.2.length = ops.size := by rw [← hT, rtab_length]
  refine start_ (n := ops.size) (S := fun _ => True) (ds := []) (Array.replicate ops.size false) hm rfl rfl trivial (fun _ => ?_)
  refine inv_ (T := T) (B := B) (List.range ops.size) (fun b a w => ∃ vs : Nat → Value, a = putSel a0 b (entries D vs) ∧ (∀ i, i < ops.size → b i = true → R i (vs i) w) ∧ Below w0.heap.size w0 w) hT hw hk ?_ ?_ ?_ ?_
  · simp only [Bool.and_eq_true, beq_iff_eq, List.length_range, and_true]
    rw [hTl]
    apply List.ext_getElem
    · simp [lof]
    · intro i h1 h2
      simp [lof] at h1 ⊢
      exact h1
  · refine ⟨fun _ => undef, ?_, (fun _ _ h => by cases h), below_drew (Below.refl _ _)⟩
    have : ∀ (L : List (Nat × Tmp × Value)) (a : Act), putSel a (fun _ => false) L = a := by
      intro L
      induction L with
      | nil => intro a; rfl
      | cons e L ih => intro a; unfold putSel; rw [if_neg (by simp)]; exact ih a
    rw [this]
  · intro i hi
    have hil : i < ops.size := List.mem_range.1 hi
    have hiD : i < D.length := by omega
    intro b a w ⟨vs, ha, hR, hB⟩ hb hon hoff
    have hsz : ∀ s, D.contains s = false → a.tmps[s]? = a0.tmps[s]? := by
      intro s hsD
      rw [ha]
      refine putSel_off ?_
      rw [List.all_eq_true]
      intro e he
      obtain ⟨j, hj⟩ := List.getElem?_of_mem he
      have hjl : j < D.length := by have := (List.getElem?_eq_some_iff.1 hj).1; rwa [entries_length] at this
      rw [entries_get hjl] at hj
      simp only [Option.some.injEq] at hj
      subst hj
      simp only [Bool.not_eq_true', beq_eq_false_iff_ne]
      intro h
      have : D.contains s = true := by
        rw [List.contains_iff_mem, ← h, List.getD_eq_getElem?_getD, List.getElem?_eq_getElem hjl]
        exact List.getElem_mem hjl
      rw [this] at hsD
      cases hsD
    have hdep : ∀ j, (B.getD i 0).testBit j = true → a.tmps[D.getD j 0]? = some (vs j) ∧ R j (vs j) w := by
      intro j hj
      have hjn : j < ops.size := by
        rcases Nat.lt_or_ge j ops.size with h | h
        · exact h
        · have h1 := List.all_eq_true.1 hBn i hi
          have h2 : B.getD i 0 ≤ 2 ^ ops.size - 1 := Nat.le_of_ble_eq_true h1
          have h3 : B.getD i 0 < 2 ^ j := Nat.lt_of_le_of_lt h2 (Nat.lt_of_lt_of_le (Nat.sub_lt (Nat.two_pow_pos _) Nat.one_pos) (Nat.pow_le_pow_right (by decide) h))
          rw [Nat.testBit_lt_two_pow h3] at hj
          cases hj
      have hbj : b j = true := hon j (by rw [Bool.and_eq_true]; exact ⟨by simpa using hjn, hj⟩)
      refine ⟨?_, hR j hjn hbj⟩
      rw [ha]
      have hjD : j < D.length := by omega
      refine putSel_on (e := (j, D.getD j 0, vs j)) j (entries_get hjD) ?_ hbj ?_
      · have := entries_apart (vs := vs) hD hjD
        rw [List.all_append, Bool.and_eq_true] at this
        have h2 := this.2
        rw [List.all_eq_true] at h2 ⊢
        intro x hx
        have := h2 x hx
        rw [Bool.and_eq_true] at this
        exact this.2
      · have h1 := List.all_eq_true.1 hin (D.getD j 0) (by rw [List.getD_eq_getElem?_getD, List.getElem?_eq_getElem hjD]; exact List.getElem_mem hjD)
        exact h1
    obtain ⟨oi, ho, hdst, hstep⟩ := hs i hi a w vs hB hsz hdep
    refine ⟨oi, ho, fun K hK => ?_⟩
    rw [hdst]
    refine hstep K fun v w' hv hbw => ?_
    refine hK.out _ _ ⟨fun j => if j = i then v else vs j, ?_, ?_, below_step hB hbw⟩
    · rw [ha]
      exact putSel_upk i hb (entries_get hiD) (entries_set v) (entries_apart hD hiD)
    · intro j hj hbj
      by_cases hji : j = i
      · subst hji
        simp only [if_pos]
        exact hv
      · simp only [if_neg hji]
        rw [up_ne hji] at hbj
        exact hmono _ _ _ _ (hR j hj hbj) hbw
  · intro b a w hall ⟨vs, ha, hR, hB⟩
    have : putSel a0 b (entries D vs) = putSel a0 (fun _ => true) (entries D vs) := by
      have hlt : ∀ e ∈ entries D vs, b e.1 = true := by
        intro e he
        obtain ⟨j, hj⟩ := List.getElem?_of_mem he
        have hjl : j < D.length := by have := (List.getElem?_eq_some_iff.1 hj).1; rwa [entries_length] at this
        rw [entries_get hjl] at hj
        simp only [Option.some.injEq] at hj
        subst hj
        exact hall j (by simpa using (by omega : j < ops.size))
      exact putSel_congr (fun e he => hlt e he)
    rw [ha, this]
    exact hend vs w hB (fun i hi => hR i hi (hall i (by simpa using hi)))
/-- The same, as it is used. -/
theorem grow_rs {id : Nat} {a0 : Act} {w0 : World} (D : List Tmp) (Rs : List (Value → World → Prop)) (L : List Nat) (T : Bool × List (List Nat × List Nat)) (B : List Nat) (hm : P.follows .mixedOrders = true)
    (hT : rtab .any ops = T) (hL : List.range ops.size = L) (hw : waitsOk T.2 B = true) (hk : baseOk T.2 L = true) (hD : distinctD D = true) (hDn : D.length = ops.size)
    (hin : (D.all fun t => Nat.ble (t + 1) a0.tmps.size) = true) (hBn : (L.all fun i => Nat.ble (B.getD i 0) (2 ^ D.length - 1)) = true)
    (hmono : ∀ r ∈ Rs, Rm r) (hs : ∀ i ∈ L, GrowStep P ops Q B D (RR Rs) a0 w0 i)
    (hend : ∀ (vs : Nat → Value) (w : World), Below w0.heap.size w0 w → (∀ i, Nat.ble (i + 1) D.length = true → RR Rs i (vs i) w) → Q .normal (putSel a0 (fun _ => true) (entries D vs)) w) :
    (Code.region id ops true).wp P Q a0 w0 := by
  subst hL
  rw [hDn] at hBn
  exact grow_region D (RR Rs) hm hT hw hk hD hDn hin hBn (RR_mono hmono) hs (fun vs w hb h => hend vs w hb (fun i hi => h i (by have := Nat.le_of_ble_eq_true hi; omega)))
end
end Go.Proofs.YtbbhjceelghadaaDoor.My
end

section
-- from DiskE
namespace Go.Proofs.YtbbhjceelghadaaDoor.K
open Go Go.RowKit Go.Proofs.YtbbhjceelghadaaDoorW.PrintWords Go.Proofs.YtbbhjceelghadaaDoorW.PrintLast Go.Proofs.YtbbhjceelghadaaDoorW.PrintMore Go.Proofs.YtbbhjceelghadaaDoor.My
attribute [local go_sem] max2_mx min2_mn max_two min_two
def RRead (l : List UInt8) : Value → World → Prop := fun v w => ∃ A c, v = .slice A l.length c ∧ kb.C w A l.length l
theorem Rm_read (l : List UInt8) : Rm (RRead l) := fun _ _ _ ⟨A, c, h1, h2⟩ hb => ⟨A, c, h1, Kd.C_below h2 hb⟩
end Go.Proofs.YtbbhjceelghadaaDoor.K
end

section
-- from DiskU
namespace Go.Proofs.YtbbhjceelghadaaDoor.K
open Go Go.RowKit Go.Proofs.YtbbhjceelghadaaDoorW.PrintWords Go.Proofs.YtbbhjceelghadaaDoorW.PrintLast Go.Proofs.YtbbhjceelghadaaDoorW.PrintMore Go.Proofs.YtbbhjceelghadaaDoor.My
attribute [local go_sem] max2_mx min2_mn max_two min_two
/-- What was read stays, whatever becomes of the disk. -/
theorem OB.kb {w w' : World} {base b : Nat} {row : Option Nat} {v : Value} {l : List UInt8} (h : OB w base v l) (hk : Kb b row w w') (hb : b < base) (hr : ∀ k, row = some k → k < base) : kb.R 5 w' base (fun k => base ≤ k) v l :=
  Kd.R_step (Kd.R_mono (Kd.R_bound h) (fun k hk => hk.2.1)) (fun k ho hlt => hk.block k hlt (by omega) (fun e => by have := hr k e.symm; omega))
theorem One.row_lt {w0 w : World} {b : Nat} {row : Option Nat} {d : DM} (h : One w0 w b row d) (k : Nat) (e : row = some k) : k < w.heap.size := (h.dd.row_lt k e).1
/-- A row of bytes that is the call's own, as it is written over. -/
def Blk (w : World) (g n : Nat) : Prop := ∃ cells : Array Value, w.heap[g]? = some (.cells cells 5 (0, 0)) ∧ n ≤ cells.size
theorem Blk.cell {w : World} {g n : Nat} (h : Blk w g n) (i : Nat) (hi : i < n) : ∃ x, w.cell? ⟨g, i, none⟩ = some x := by
  obtain ⟨cells, h1, h2⟩ := h
  exact ⟨cells[i], (blk_cell h1 i).trans (by simp)⟩
theorem Blk.f {w : World} {g n : Nat} (h : Blk w g n) (i : Nat) : w.frozen? ⟨g, i, none⟩ = false := by
  obtain ⟨cells, h1, h2⟩ := h
  exact blk_frozen h1 i
theorem Blk.put {w : World} {g n : Nat} (h : Blk w g n) (i : Nat) (x : Value) : Blk (w.setCell ⟨g, i, none⟩ x) g n := by
  obtain ⟨cells, h1, h2⟩ := h
  exact ⟨_, blk_put h1 i x rfl, by simpa using h2⟩
theorem room_app {d : DM} {l : List UInt8} (h : ¬ d.full l) (hl : d.left = -1) : d.app l = { d with bs := d.bs ++ l } ∧ d.appE l = 0 := by
  unfold DM.app DM.appE
  rw [if_neg (by omega), if_neg h, if_neg (by omega), if_neg h]
  refine ⟨?_, rfl⟩
  cases d
  simp only at hl
  subst hl
  rfl
end Go.Proofs.YtbbhjceelghadaaDoor.K
end

section
-- from DiskV
namespace Go.Proofs.YtbbhjceelghadaaDoor.K
open Go Go.RowKit Go.Proofs.YtbbhjceelghadaaDoorW.PrintWords Go.Proofs.YtbbhjceelghadaaDoorW.PrintLast Go.Proofs.YtbbhjceelghadaaDoorW.PrintMore Go.Proofs.YtbbhjceelghadaaDoor.My
attribute [local go_sem] max2_mx min2_mn max_two min_two
/-- A row of the call's own that is none of the disk's. -/
def Ow (w0 w : World) (b : Nat) (row : Option Nat) (v : Value) (l : List UInt8) : Prop := kb.R 5 w w0.heap.size (fun k => k ≠ b ∧ row ≠ some k) v l
theorem Ow.step {w0 w w' : World} {b : Nat} {row row' : Option Nat} {v : Value} {l : List UInt8} (h : Ow w0 w b row v l) (hk : Kb b row w w') (hn : Nw w row row') : Ow w0 w' b row' v l := by
  have h1 : kb.R 5 w w0.heap.size (fun k => (k ≠ b ∧ row ≠ some k) ∧ k < w.heap.size) v l := Kd.R_mono (Kd.R_bound h) (fun k hk => ⟨hk.1, hk.2.2.1⟩)
  have h2 := Kd.R_step h1 (fun k ho hlt => hk.block k hlt ho.1.1 (fun e => ho.1.2 e.symm))
  refine Kd.R_mono h2 (fun k ho => ⟨ho.1.1, fun e => ?_⟩)
  rcases hn k e with h3 | h3
  · exact ho.1.2 h3
  · omega
theorem Ow.below {w0 w w' : World} {b : Nat} {row : Option Nat} {v : Value} {l : List UInt8} (h : Ow w0 w b row v l) (hb : Below w.heap.size w w') : Ow w0 w' b row v l := Kd.R_below h hb
theorem Ow.reads {w0 w : World} {b : Nat} {row : Option Nat} {v : Value} {l : List UInt8} (h : Ow w0 w b row v l) : ∃ A c, v = .slice A l.length c ∧ l.length ≤ c ∧ kb.C w A l.length l := Kd.R_reads h
theorem One.grown {w0 w w' : World} {b : Nat} {row : Option Nat} {d : DM} {v : Value} {l : List UInt8} (h : One w0 w b row d) (ho : Ow w0 w b row v l) (hg : w.grownBy w' v.ownBlock) (hb : Below w0.heap.size w0 w') : One w0 w' b row d := by
  have hok := ho.1
  have hlt := h.dd.lt
  have hk : Kb w.heap.size v.ownBlock w w' := ⟨hg.os, hg.tape, hg.output, hg.size, fun k hk _ hr => hg.block k hk hr⟩
  refine ⟨h.dd.kb hk (by omega) (fun e => (hok b e.symm).1 rfl) (fun k e => ⟨?_, fun e2 => (hok k e2.symm).2 e⟩), h.blk, h.row, hb⟩
  have := h.row_lt k e
  omega
theorem One.fresh {w0 w : World} {b : Nat} {row : Option Nat} {d : DM} (h : One w0 w b row d) (k : Nat) (hk : w.heap.size ≤ k) : k ≠ b ∧ row ≠ some k := by
  have := h.dd.lt
  exact ⟨by omega, fun e => by have := h.row_lt k e; omega⟩
theorem free_sync (bs : List UInt8) (lasts room : Nat) : DM.sync ⟨bs, lasts, room, -1⟩ = ⟨bs, bs.length, room, -1⟩ := rfl
def flt (l : List (List UInt8)) : List UInt8 := l.flatten
def sumN (l : List (List UInt8)) : Nat := (l.map fun x => x.length).sum
theorem flt_len (l : List (List UInt8)) : (flt l).length = sumN l := by unfold flt sumN; rw [List.length_flatten]
theorem flt_take (l : List (List UInt8)) (k : Nat) (h : k < l.length) : flt (l.take (k + 1)) = flt (l.take k) ++ l.getD k [] := by
  unfold flt
  rw [take_succ_getD [] l k h, List.flatten_append]
  simp
theorem sumN_take (l : List (List UInt8)) (k : Nat) (h : k < l.length) : sumN (l.take (k + 1)) = sumN (l.take k) + (l.getD k []).length := by
  rw [take_succ_getD [] l k h]
  simp [sumN]
theorem sumN_le (l : List (List UInt8)) (k : Nat) : sumN (l.take k) ≤ sumN l := by
  unfold sumN
  rw [← List.take_append_drop k l, List.map_append, List.sum_append, List.take_append_drop]
  omega
theorem sumN_bound (l : List (List UInt8)) (B : Nat) (h : ∀ x ∈ l, x.length ≤ B) : sumN l ≤ l.length * B := by
  induction l with
  | nil => simp [sumN]
  | cons x l ih =>
    have h1 : sumN (x :: l) = x.length + sumN l := by simp [sumN]
    have h2 := ih (fun y hy => h y (List.mem_cons_of_mem _ hy))
    have h3 := h x List.mem_cons_self
    rw [h1, List.length_cons, Nat.add_mul]
    omega
/-- The state behind k appends. -/
def LastsAt (w0 w : World) (b : Nat) (L : List UInt8) (v : Value) (la : Nat) : Prop := ∃ row, One w0 w b row ⟨L, la, 10000, -1⟩ ∧ Ow w0 w b row v L
set_option maxRecDepth 20000 in
set_option maxHeartbeats 6400000 in
theorem diskLasts_many (A : Option Addr) (c : Nat) (l : List (List UInt8)) (sy keep again : Int) (w0 : World) (h : (Kd.slice 5 kb).C w0 A l.length l) (hl : 100 < (l.length : Int)) (hl2 : (l.length : Int) ≤ 140737488351232) :
    Calls Tryd.prog 3 #[.slice A l.length c, .int .u8 sy, .int .i64 keep, .int .i64 again] w0 fun e w' => e = .returned (.bool true) ∧ Below w0.heap.size w0 w' := by
  have H := Aside0.mk h
  clear h
  go_enter Tryd.func3, Tryd.ntmps3
  go_wp2
  go_loop [9, 10] (fun n i => ∃ k : Nat, k ≤ l.length ∧ i = .int .i64 k ∧ ∃ z : Int, n = .int .i64 z) (fun _ i => l.length - (intOf i).toNat)
  case atStart => exact ⟨0, Nat.zero_le _, rfl, 0, rfl⟩
  case round =>
    obtain ⟨k, hk, rfl, z, rfl⟩ := hrel
    by_cases hlt : k < l.length
    · obtain ⟨ad, A1, c1, rfl, h2, _, _⟩ := CC_at H.out k hlt
      go_wp2
      go_round
      case rel => exact ⟨k + 1, by omega, by go_num, _, rfl⟩
      case measure => simp [intOf]; omega
    · have hkl : k = l.length := by omega
      subst hkl
      by_cases hz : 5000 < z
      · go_wp2_with fail
        refine (known10 _).mono ?_
        rintro e w1 ⟨rfl, hb1⟩
        go_wp2
        go_ret
        exact ⟨rfl, hb1⟩
      · have hd : decide (5000 < z) = false := by simpa using hz
        go_wp2_with fail
        refine (known10 _).mono ?_
        rintro e w1 ⟨rfl, hb1⟩
        go_wp2
        go_ret
        exact ⟨rfl, hb1⟩
theorem free_app (bs l : List UInt8) (lasts room : Nat) (h : bs.length + l.length ≤ room) : DM.app ⟨bs, lasts, room, -1⟩ l = ⟨bs ++ l, lasts, room, -1⟩ ∧ DM.appE ⟨bs, lasts, room, -1⟩ l = 0 := by
  have hf : ¬ DM.full ⟨bs, lasts, room, -1⟩ l := by unfold DM.full; simp only; omega
  exact room_app hf rfl
theorem m_append_at {w0 w : World} {b : Nat} {row : Option Nat} {d : DM} {A : Option Addr} {c : Nat} {l : List UInt8} (H : One w0 w b row d) (hC : kb.C w0 A l.length l) (hl : l.length ≤ 140737480000000) :
    Calls Tryd.prog 26 #[.pointer (some ⟨b, 0, none⟩), .slice A l.length c] w (DP (.int .u16 (d.appE l)) w b row (d.app l)) := by
  have hA : ∀ a, A = some a → 0 < l.length → a.block ≠ b := fun a e h0 => by
    subst e
    have := Kd.C_lt hC h0 (by decide)
    have := H.blk
    omega
  exact m_append H.dd (Kd.C_below hC H.bel) hA hl
theorem kept_eq (L : List UInt8) (la room : Nat) (keep : Int) (h : la ≤ L.length) : (((DM.mk L la room (-1)).kept keep : Nat) : Int) = if 0 < keep then (la : Int) + mn keep ((L.length : Int) - la) else la := by
  unfold DM.kept mn
  simp only
  split
  · split <;> omega
  · omega
set_option maxRecDepth 20000 in
set_option maxHeartbeats 12800000 in
theorem diskLasts_few (A : Option Addr) (c : Nat) (l : List (List UInt8)) (sy keep again : Int) (w0 : World) (hsy : 0 ≤ sy ∧ sy < 256) (hke : -9223372036854775808 ≤ keep ∧ keep ≤ 9223372036854775807) (h : (Kd.slice 5 kb).C w0 A l.length l) (hl : (l.length : Int) ≤ 100) (hb : ∀ x ∈ l, x.length ≤ 140737488351232) :
    Calls Tryd.prog 3 #[.slice A l.length c, .int .u8 sy, .int .i64 keep, .int .i64 again] w0 fun e w' => e = .returned (.bool true) ∧ Below w0.heap.size w0 w' := by
  have H := Aside0.mk h
  have hsb := sumN_bound l _ hb
  have h3 : l.length * 140737488351232 ≤ 100 * 140737488351232 := Nat.mul_le_mul_right _ (by omega)
  have hsum : (sumN l : Int) ≤ 9000000000000000000 := by omega
  obtain ⟨hs0, hs1⟩ := hsy
  clear h hsb h3 hb
  go_enter Tryd.func3, Tryd.ntmps3
  go_wp2
  go_loop [9, 10] (fun n i => ∃ k : Nat, k ≤ l.length ∧ i = .int .i64 k ∧ n = .int .i64 (sumN (l.take k))) (fun _ i => l.length - (intOf i).toNat)
  case atStart => exact ⟨0, Nat.zero_le _, rfl, rfl⟩
  case round =>
    obtain ⟨k, hk, rfl, rfl⟩ := hrel
    have hle := sumN_le l k
    by_cases hlt : k < l.length
    · have hle2 := sumN_le l (k + 1)
      have hst := sumN_take l k hlt
      obtain ⟨ad, A1, c1, rfl, h2, _, _⟩ := CC_at H.out k hlt
      obtain ⟨m, hm⟩ : ∃ m, m = sumN (l.take k) := ⟨_, rfl⟩
      obtain ⟨p, hp⟩ : ∃ p, p = (l.getD k []).length := ⟨_, rfl⟩
      rw [← hp] at h2 hst
      rw [← hm] at hst hle ⊢
      have HST := Aside0.mk hst
      rw [hst] at hle2
      clear hst hm hp
      go_wp2
      go_round
      case rel => exact ⟨k + 1, by omega, by go_num, by rw [HST.out]; go_num⟩
      case measure => simp [intOf]; omega
    · have hkl : k = l.length := by omega
      subst hkl
      have ht : l.take l.length = l := List.take_length
      rw [ht] at hle ⊢
      clear ht
      by_cases h5 : 5000 < (sumN l : Int)
      · go_wp2_with fail
        refine (known10 _).mono ?_
        rintro e w1 ⟨rfl, hb1⟩
        go_wp2
        go_ret
        exact ⟨rfl, hb1⟩
      · have hd : decide (5000 < (sumN l : Int)) = false := by simpa using h5
        have hs5 : (sumN l : Int) ≤ 5000 := by omega
        obtain ⟨S20, hS⟩ : ∃ S20 : Nat, (S20 : Int) = sy % 20 := ⟨(sy % 20).toNat, by omega⟩
        have q1 : sy.tmod 20 = S20 := by rw [hS, Int.tmod_eq_emod_of_nonneg hs0]
        have q2 : sy % 20 = S20 := hS.symm
        have hs20 : S20 < 20 := by omega
        clear hS hsum hle
        go_wp2_with fail
        refine (known10 _).mono ?_
        rintro e w1 ⟨rfl, hb1⟩
        have HB1 := Aside0.mk hb1
        clear hb1
        go_wp2_with fail
        refine (m_new 10000 w1 (by omega)).mono ?_
        rintro e w2 ⟨rfl, hd2, hb2⟩
        have h2 := One.new HB1.out hd2 hb2
        obtain ⟨b, hbb⟩ : ∃ b, b = w1.heap.size := ⟨_, rfl⟩
        rw [← hbb] at h2 ⊢
        have HA := Aside0.mk (show LastsAt w0 w2 b [] (.slice none 0 0) 0 from ⟨none, h2, Kd.R_nil _ _ _ _ _⟩)
        clear hd2 hb2 hbb h2 hd h5
        go_wp2
        go_loopw [12, 13, 14] (fun v la i wr => ∃ j t : Nat, j ≤ l.length ∧ i = .int .i64 j ∧ la = .int .i64 t ∧ LastsAt w0 wr b (flt (l.take j)) v t) (fun _ _ i _ => l.length - (intOf i).toNat)
        case atStart => exact ⟨0, 0, Nat.zero_le _, rfl, rfl, HA.out⟩
        case round =>
          obtain ⟨j, t, hj, rfl, rfl, row, hO, hW⟩ := hrel
          have HO := Aside0.mk hO
          have HW := Aside0.mk hW
          obtain ⟨Av, cv, rfl, hcv, _⟩ := hW.reads
          clear hO hW HA
          obtain ⟨L, hL⟩ : ∃ L, L = flt (l.take j) := ⟨_, rfl⟩
          rw [← hL] at HO HW hcv ⊢
          have hLn : L.length ≤ sumN l := by rw [hL, flt_len]; exact sumN_le l j
          have HL := Aside0.mk hL
          clear hL
          by_cases hlt : j < l.length
          · obtain ⟨ad, A1, c1, rfl, h2, hc1, hC1⟩ := CC_at H.out j hlt
            have hst := sumN_take l j hlt
            have hle2 := sumN_le l (j + 1)
            have hfx := flt_take l j hlt
            obtain ⟨x, hx⟩ : ∃ x, x = l.getD j [] := ⟨_, rfl⟩
            rw [← hx] at h2 hC1 hc1 hst hfx
            have HFX := Aside0.mk (show flt (l.take (j + 1)) = L ++ x from by rw [hfx, HL.out])
            have hLx : L.length + x.length ≤ 5000 := by rw [HL.out, flt_len]; omega
            have HC1 := Aside0.mk hC1
            have H2 := Aside0.mk h2
            have g2 := bcell HO.out.bel h2
            have hfa := Aside0.mk (free_app L x t 10000 (by omega))
            clear h2 hC1 hst hle2 hfx hx hLn
            go_wp2_with fail
            refine (m_append_at (c := c1) HO.out HC1.out (by omega)).mono ?_
            rintro e w4 hp
            rw [hfa.out.1, hfa.out.2] at hp
            obtain ⟨rfl, row4, hD4, hN4, hK4⟩ := hp
            have H4 := Aside0.mk (HO.out.step hD4 hN4 hK4)
            have HW4 := Aside0.mk (HW.out.step hK4 hN4)
            have g4 := bcell H4.out.bel H2.out
            clear hD4 hN4 hK4 g2
            rcases Nat.lt_or_ge j S20 with hjs | hjs
            · go_wp2_with (at_builtin; refine Kd.R_append_rows kb (w0 := w0) w0.heap.size rfl (.tmp 58) (.tmp 62) 23 5 (.int .u8 0) 1 rfl Tryd.underlying23 info_u8' rfl (by decide) (by omega) (.slice Av L.length cv) L x A1 x.length c1 (fun k => k ≠ b ∧ row4 ≠ some k) (fun _ => False) rfl rfl ?aO1 ?aR1 (fun _ _ h => h) (fun _ h => h.elim) ?aF1 ?aB1 ?aS1 ?aL1 ?_; (case aO1 => exact HW4.out); (case aR1 => exact Kd.C_below HC1.out H4.out.bel); (case aF1 => exact fun k hk => H4.out.fresh k hk); (case aB1 => exact H4.out.bel); (case aS1 => exact H4.out.bel.size); (case aL1 => omega); intro v1 w5 hO1 hB1 hg hat; have H5 := Aside0.mk (H4.out.grown HW4.out hg hB1); have HW5 := Aside0.mk (show Ow w0 w5 b row4 v1 (L ++ x) from hO1); clear hO1 hB1 hg hat)
              refine (m_sync H5.out.dd).mono ?_
              rintro e w6 hp
              rw [free_sync] at hp
              obtain ⟨rfl, row6, hD6, hN6, hK6⟩ := hp
              have H6 := Aside0.mk (H5.out.step hD6 hN6 hK6)
              have HW6 := Aside0.mk (HW5.out.step hK6 hN6)
              clear hD6 hN6 hK6
              obtain ⟨A2, c2, rfl, hc2, _⟩ := HW6.out.reads
              obtain ⟨N, hN⟩ : ∃ N, N = (L ++ x).length := ⟨_, rfl⟩
              rw [← hN] at hc2 H6 HW6 ⊢
              have HN := Aside0.mk hN
              clear hN
              go_wp2
              go_roundw
              case rel => exact ⟨j + 1, N, by omega, by go_num, rfl, by rw [HFX.out]; exact ⟨row6, H6.out, HW6.out⟩⟩
              case measure => simp [intOf]; omega
            · go_wp2_with (at_builtin; refine Kd.R_append_rows kb (w0 := w0) w0.heap.size rfl (.tmp 58) (.tmp 62) 23 5 (.int .u8 0) 1 rfl Tryd.underlying23 info_u8' rfl (by decide) (by omega) (.slice Av L.length cv) L x A1 x.length c1 (fun k => k ≠ b ∧ row4 ≠ some k) (fun _ => False) rfl rfl ?aO2 ?aR2 (fun _ _ h => h) (fun _ h => h.elim) ?aF2 ?aB2 ?aS2 ?aL2 ?_; (case aO2 => exact HW4.out); (case aR2 => exact Kd.C_below HC1.out H4.out.bel); (case aF2 => exact fun k hk => H4.out.fresh k hk); (case aB2 => exact H4.out.bel); (case aS2 => exact H4.out.bel.size); (case aL2 => omega); intro v1 w5 hO1 hB1 hg hat; have H5 := Aside0.mk (H4.out.grown HW4.out hg hB1); have HW5 := Aside0.mk (show Ow w0 w5 b row4 v1 (L ++ x) from hO1); clear hO1 hB1 hg hat)
              go_roundw
              case rel => exact ⟨j + 1, t, by omega, by go_num, rfl, by rw [HFX.out]; exact ⟨row4, H5.out, HW5.out⟩⟩
              case measure => simp [intOf]; omega
          · have hjl : j = l.length := by omega
            have hLl := Aside0.mk (show L = flt l from by rw [HL.out, hjl, List.take_length])
            have hlas := HO.out.dd.2.las
            have hke2 := kept_eq L t 10000 keep hlas
            obtain ⟨Kp, hK⟩ : ∃ Kp, Kp = (DM.mk L t 10000 (-1)).kept keep := ⟨_, rfl⟩
            have hKL : Kp ≤ L.length := by rw [hK]; exact DM.kept_le HO.out.dd.2 keep
            have HK := Aside0.mk hK
            rw [← hK] at hke2
            have hlas2 : t ≤ L.length := hlas
            have hL5 : (L.length : Int) ≤ 5000 := by omega
            clear hlas hK
            go_wp2_with fail
            refine (m_crash keep HO.out.dd).mono ?_
            rintro e w4 hp
            rw [show (DM.mk L t 10000 (-1)).crash keep = ⟨L.take Kp, Kp, 10000, -1⟩ from by rw [HK.out]; rfl] at hp
            obtain ⟨rfl, row4, hD4, hN4, hK4⟩ := hp
            have H4 := Aside0.mk (HO.out.step hD4 hN4 hK4)
            have HW4 := Aside0.mk (HW.out.step hK4 hN4)
            clear hD4 hN4 hK4
            go_wp2_with fail
            refine (m_read H4.out.dd).mono ?_
            rintro e w5 ⟨v5, rfl, hv5, hb5⟩
            have H5 := Aside0.mk (H4.out.below hb5)
            have HW5 := Aside0.mk (HW4.out.below hb5)
            have HV5 := Aside0.mk hv5
            obtain ⟨A5, c5, hv, _, _⟩ := hv5.reads
            subst hv
            have htk : (L.take Kp).length = Kp := by rw [List.length_take]; omega
            rw [htk]
            have HTK := Aside0.mk htk
            clear hv5 hb5 htk
            by_cases hkp : 0 < keep
            · rw [if_pos hkp] at hke2
              have hke3 : (t : Int) + mn keep ((L.length : Int) - t) = Kp := hke2.symm
              have hm0 : 0 ≤ mn keep ((L.length : Int) - t) := by unfold mn; split <;> omega
              have hm1 : mn keep ((L.length : Int) - t) ≤ 5000 := by unfold mn; split <;> omega
              clear hke2
              go_wp2_with fail
              refine (m_crash again H5.out.dd).mono ?_
              rintro e w6 hp
              rw [show (DM.mk (L.take Kp) Kp 10000 (-1)).crash again = ⟨L.take Kp, Kp, 10000, -1⟩ from by simp [DM.crash, DM.kept, HTK.out, List.take_take]] at hp
              obtain ⟨rfl, row6, hD6, hN6, hK6⟩ := hp
              have H6 := Aside0.mk (H5.out.step hD6 hN6 hK6)
              have HW6 := Aside0.mk (HW5.out.step hK6 hN6)
              have hc6 := (kb_R (OB.kb HV5.out hK6 H4.out.dd.lt (fun k e => H4.out.row_lt k e))).2.2
              have hc6 : kb.C w6 A5 Kp (L.take Kp) := by have q := hc6; simp only [HTK.out] at q; exact q
              have HC6 := Aside0.mk hc6
              obtain ⟨Av', cv', hve, _, hcL⟩ := HW6.out.reads
              simp only [Value.slice.injEq] at hve
              obtain ⟨rfl, _, rfl⟩ := hve
              have HCL := Aside0.mk (C_take_n hcL Kp hKL)
              have hcut := cut_h Av L.length cv Kp (Kp : Int) rfl hKL hcv
              have hHD := Aside0.mk H6.out.dd
              obtain ⟨bl, hbl⟩ : ∃ bl, bl = L.take Kp := ⟨_, rfl⟩
              have HBL := Aside0.mk (show (DM.mk (L.take Kp) Kp 10000 (-1)).bs = bl from hbl.symm)
              have HBLN := Aside0.mk (show bl.length = Kp from by rw [hbl]; exact HTK.out)
              rw [← hbl] at HC6 HCL
              clear hD6 hN6 hK6 hc6 hcL hbl
              go_wp2
              refine grow_rs [92, 93, 94, 95, 96, 97, 98, 99, 100, 101, 102, 103, 104, 105, 106, 8] [fun v _ => v = (.slice A5 Kp c5), fun v _ => v = (.string (bs bl)), fun v _ => v = (.slice Av L.length cv), fun v _ => v = (.int .i64 (Kp : Int)), fun v _ => v = (.slice Av Kp cv), fun v _ => v = (.string (bs bl)), fun v _ => v = (.bool true), fun v _ => v = (.bool true), fun v _ => v = (.pointer (some ⟨b, 0, none⟩)), RRead bl, fun v _ => v = (.string (bs bl)), fun v _ => v = (.slice A5 Kp c5), fun v _ => v = (.string (bs bl)), fun v _ => v = (.bool true), fun v _ => v = (.bool true), fun v _ => v = (.bool true)] [0, 1, 2, 3, 4, 5, 6, 7, 8, 9, 10, 11, 12, 13, 14, 15] (true, [([], []), ([0], [0]), ([], []), ([], []), ([2, 3], [2, 3]), ([4], [4]), ([1, 5], [1, 5]), ([6], [6]), ([7], [7]), ([8, 7, 7], [7, 8]), ([9, 7], [7, 9]), ([7], [7]), ([11, 7], [7, 11]), ([10, 12, 7], [7, 10, 12]), ([7, 13], [7, 13]), ([14, 9, 0, 1, 2, 3, 4, 5, 6, 7, 8, 9, 10, 11, 12, 13, 14], [14])]) [0, 1, 0, 0, 12, 28, 63, 127, 255, 511, 1023, 255, 2303, 8191, 16383, 32767] (by kernel_rfl) (by kernel_rfl) (by kernel_rfl) (by kernel_rfl) (by kernel_rfl) (by kernel_rfl) (by kernel_rfl) (by rfl) (by kernel_rfl) ?_ ?_ ?_
              · exact (Rms_cons (Rm_eq _) (Rms_cons (Rm_eq _) (Rms_cons (Rm_eq _) (Rms_cons (Rm_eq _) (Rms_cons (Rm_eq _) (Rms_cons (Rm_eq _) (Rms_cons (Rm_eq _) (Rms_cons (Rm_eq _) (Rms_cons (Rm_eq _) (Rms_cons (Rm_read bl) (Rms_cons (Rm_eq _) (Rms_cons (Rm_eq _) (Rms_cons (Rm_eq _) (Rms_cons (Rm_eq _) (Rms_cons (Rm_eq _) (Rms_cons (Rm_eq _) Rms_nil))))))))))))))))
              · refine gsteps_cons ?_ ?_
                · intro a w' vs hB hel hd
                  have e15 : a.tmps[15]? = some (.slice A5 Kp c5) := (hel 15 (by kernel_rfl)).trans (by rfl)
                  refine ⟨_, rfl, rfl, fun K hK => ?_⟩
                  refine value_ (w1 := w') (v := .slice A5 Kp c5) (by rfl) rfl ?_ (hK _ _ (by exact rfl) (Below.refl _ _))
                  · go_simp
                    (try simp only [i64_w, bs_list])
                    (try rfl)
                    (try (unfold Go.RowKit.wrap64; omega))
                refine gsteps_cons ?_ ?_
                · intro a w' vs hB hel hd
                  obtain ⟨f92, r92⟩ := hd 0 (by kernel_rfl)
                  have e92 : a.tmps[92]? = some (.slice A5 Kp c5) := f92.trans (congrArg some (r92 : vs 0 = (.slice A5 Kp c5)))
                  have q1 := conv_string (c := c5) (Kd.C_below HC6.out hB)
                  refine ⟨_, rfl, rfl, fun K hK => ?_⟩
                  refine value_ (w1 := w') (v := .string (bs bl)) (by rfl) rfl ?_ (hK _ _ (by exact rfl) (Below.refl _ _))
                  · go_simp
                    (try simp only [i64_w, bs_list])
                    (try rfl)
                    (try (unfold Go.RowKit.wrap64; omega))
                refine gsteps_cons ?_ ?_
                · intro a w' vs hB hel hd
                  have e12 : a.tmps[12]? = some (.slice Av L.length cv) := (hel 12 (by kernel_rfl)).trans (by rfl)
                  refine ⟨_, rfl, rfl, fun K hK => ?_⟩
                  refine value_ (w1 := w') (v := .slice Av L.length cv) (by rfl) rfl ?_ (hK _ _ (by exact rfl) (Below.refl _ _))
                  · go_simp
                    (try simp only [i64_w, bs_list])
                    (try rfl)
                    (try (unfold Go.RowKit.wrap64; omega))
                refine gsteps_cons ?_ ?_
                · intro a w' vs hB hel hd
                  have e16 : a.tmps[16]? = some (.int .i64 (Kp : Int)) := (hel 16 (by kernel_rfl)).trans (by rfl)
                  refine ⟨_, rfl, rfl, fun K hK => ?_⟩
                  refine value_ (w1 := w') (v := .int .i64 (Kp : Int)) (by rfl) rfl ?_ (hK _ _ (by exact rfl) (Below.refl _ _))
                  · go_simp
                    (try simp only [i64_w, bs_list])
                    (try rfl)
                    (try (unfold Go.RowKit.wrap64; omega))
                refine gsteps_cons ?_ ?_
                · intro a w' vs hB hel hd
                  obtain ⟨f94, r94⟩ := hd 2 (by kernel_rfl)
                  have e94 : a.tmps[94]? = some (.slice Av L.length cv) := f94.trans (congrArg some (r94 : vs 2 = (.slice Av L.length cv)))
                  obtain ⟨f95, r95⟩ := hd 3 (by kernel_rfl)
                  have e95 : a.tmps[95]? = some (.int .i64 (Kp : Int)) := f95.trans (congrArg some (r95 : vs 3 = (.int .i64 (Kp : Int))))
                  have q1 := hcut
                  refine ⟨_, rfl, rfl, fun K hK => ?_⟩
                  refine value_ (w1 := w') (v := .slice Av Kp cv) (by rfl) rfl ?_ (hK _ _ (by exact rfl) (Below.refl _ _))
                  · go_simp
                    (try simp only [i64_w, bs_list])
                    (try rfl)
                    (try (unfold Go.RowKit.wrap64; omega))
                refine gsteps_cons ?_ ?_
                · intro a w' vs hB hel hd
                  obtain ⟨f96, r96⟩ := hd 4 (by kernel_rfl)
                  have e96 : a.tmps[96]? = some (.slice Av Kp cv) := f96.trans (congrArg some (r96 : vs 4 = (.slice Av Kp cv)))
                  have q1 := conv_string (c := cv) (Kd.C_below HCL.out hB)
                  refine ⟨_, rfl, rfl, fun K hK => ?_⟩
                  refine value_ (w1 := w') (v := .string (bs bl)) (by rfl) rfl ?_ (hK _ _ (by exact rfl) (Below.refl _ _))
                  · go_simp
                    (try simp only [i64_w, bs_list])
                    (try rfl)
                    (try (unfold Go.RowKit.wrap64; omega))
                refine gsteps_cons ?_ ?_
                · intro a w' vs hB hel hd
                  obtain ⟨f93, r93⟩ := hd 1 (by kernel_rfl)
                  have e93 : a.tmps[93]? = some (.string (bs bl)) := f93.trans (congrArg some (r93 : vs 1 = (.string (bs bl))))
                  obtain ⟨f97, r97⟩ := hd 5 (by kernel_rfl)
                  have e97 : a.tmps[97]? = some (.string (bs bl)) := f97.trans (congrArg some (r97 : vs 5 = (.string (bs bl))))
                  refine ⟨_, rfl, rfl, fun K hK => ?_⟩
                  refine value_ (w1 := w') (v := .bool true) (by rfl) rfl ?_ (hK _ _ (by exact rfl) (Below.refl _ _))
                  · go_simp
                    (try simp only [i64_w, bs_list])
                    (try rfl)
                    (try (unfold Go.RowKit.wrap64; omega))
                refine gsteps_cons ?_ ?_
                · intro a w' vs hB hel hd
                  obtain ⟨f98, r98⟩ := hd 6 (by kernel_rfl)
                  have e98 : a.tmps[98]? = some (.bool true) := f98.trans (congrArg some (r98 : vs 6 = (.bool true)))
                  refine ⟨_, rfl, rfl, fun K hK => ?_⟩
                  refine value_ (w1 := w') (v := .bool true) (by rfl) rfl ?_ (hK _ _ (by exact rfl) (Below.refl _ _))
                  · go_simp
                    (try simp only [i64_w, bs_list])
                    (try rfl)
                    (try (unfold Go.RowKit.wrap64; omega))
                refine gsteps_cons ?_ ?_
                · intro a w' vs hB hel hd
                  have e11 : a.tmps[11]? = some (.pointer (some ⟨b, 0, none⟩)) := (hel 11 (by kernel_rfl)).trans (by rfl)
                  obtain ⟨f99, r99⟩ := hd 7 (by kernel_rfl)
                  have e99 : a.tmps[99]? = some (.bool true) := f99.trans (congrArg some (r99 : vs 7 = (.bool true)))
                  refine ⟨_, rfl, rfl, fun K hK => ?_⟩
                  refine value_ (w1 := w') (v := .pointer (some ⟨b, 0, none⟩)) (wanted_on rfl rfl rfl e99) rfl ?_ (hK _ _ (by exact rfl) (Below.refl _ _))
                  · go_simp
                    (try simp only [i64_w, bs_list])
                    (try rfl)
                    (try (unfold Go.RowKit.wrap64; omega))
                refine gsteps_cons ?_ ?_
                · intro a w' vs hB hel hd
                  obtain ⟨f100, r100⟩ := hd 8 (by kernel_rfl)
                  have e100 : a.tmps[100]? = some (.pointer (some ⟨b, 0, none⟩)) := f100.trans (congrArg some (r100 : vs 8 = (.pointer (some ⟨b, 0, none⟩))))
                  obtain ⟨f99, r99⟩ := hd 7 (by kernel_rfl)
                  have e99 : a.tmps[99]? = some (.bool true) := f99.trans (congrArg some (r99 : vs 7 = (.bool true)))
                  refine ⟨_, rfl, rfl, fun K hK => ?_⟩
                  refine goes_ Tryd.func29 (by kernel_rfl) rfl #[.pointer (some ⟨b, 0, none⟩)] (wanted_on rfl rfl rfl e99) rfl rfl (by first | (simp only [List.map_toArray, List.map_cons, List.map_nil, Act.eval, Array.getD_eq_getD_getElem?, Option.getD_some, e100, e99]; done) | (simp only [List.map_toArray, List.map_cons, List.map_nil, Act.eval, Array.getD_eq_getD_getElem?, Option.getD_some, e100, e99]; rfl)) ?_
                  refine (m_read (hHD.out.below hB)).mono ?_
                  rintro e_ w2_ ⟨v_, rfl, hv_, hb2_⟩
                  rw [HBL.out] at hv_
                  obtain ⟨A_, c_, rfl, _, hC_⟩ := hv_.reads
                  exact ⟨_, rfl, hK _ _ ⟨A_, c_, rfl, hC_⟩ hb2_⟩
                refine gsteps_cons ?_ ?_
                · intro a w' vs hB hel hd
                  obtain ⟨f101, r101⟩ := hd 9 (by kernel_rfl)
                  obtain ⟨A9_, c9_, hv9_, hC9_⟩ := (r101 : (RRead bl) (vs 9) w')
                  have e101 : a.tmps[101]? = some (.slice A9_ bl.length c9_) := f101.trans (congrArg some hv9_)
                  obtain ⟨f99, r99⟩ := hd 7 (by kernel_rfl)
                  have e99 : a.tmps[99]? = some (.bool true) := f99.trans (congrArg some (r99 : vs 7 = (.bool true)))
                  have q1 := conv_string (c := c9_) hC9_
                  refine ⟨_, rfl, rfl, fun K hK => ?_⟩
                  refine value_ (w1 := w') (v := .string (bs bl)) (wanted_on rfl rfl rfl e99) rfl ?_ (hK _ _ (by exact rfl) (Below.refl _ _))
                  · go_simp
                    (try simp only [i64_w, bs_list])
                    (try rfl)
                    (try (unfold Go.RowKit.wrap64; omega))
                refine gsteps_cons ?_ ?_
                · intro a w' vs hB hel hd
                  have e15 : a.tmps[15]? = some (.slice A5 Kp c5) := (hel 15 (by kernel_rfl)).trans (by rfl)
                  obtain ⟨f99, r99⟩ := hd 7 (by kernel_rfl)
                  have e99 : a.tmps[99]? = some (.bool true) := f99.trans (congrArg some (r99 : vs 7 = (.bool true)))
                  refine ⟨_, rfl, rfl, fun K hK => ?_⟩
                  refine value_ (w1 := w') (v := .slice A5 Kp c5) (wanted_on rfl rfl rfl e99) rfl ?_ (hK _ _ (by exact rfl) (Below.refl _ _))
                  · go_simp
                    (try simp only [i64_w, bs_list])
                    (try rfl)
                    (try (unfold Go.RowKit.wrap64; omega))
                refine gsteps_cons ?_ ?_
                · intro a w' vs hB hel hd
                  obtain ⟨f103, r103⟩ := hd 11 (by kernel_rfl)
                  have e103 : a.tmps[103]? = some (.slice A5 Kp c5) := f103.trans (congrArg some (r103 : vs 11 = (.slice A5 Kp c5)))
                  obtain ⟨f99, r99⟩ := hd 7 (by kernel_rfl)
                  have e99 : a.tmps[99]? = some (.bool true) := f99.trans (congrArg some (r99 : vs 7 = (.bool true)))
                  have q1 := conv_string (c := c5) (Kd.C_below HC6.out hB)
                  refine ⟨_, rfl, rfl, fun K hK => ?_⟩
                  refine value_ (w1 := w') (v := .string (bs bl)) (wanted_on rfl rfl rfl e99) rfl ?_ (hK _ _ (by exact rfl) (Below.refl _ _))
                  · go_simp
                    (try simp only [i64_w, bs_list])
                    (try rfl)
                    (try (unfold Go.RowKit.wrap64; omega))
                refine gsteps_cons ?_ ?_
                · intro a w' vs hB hel hd
                  obtain ⟨f102, r102⟩ := hd 10 (by kernel_rfl)
                  have e102 : a.tmps[102]? = some (.string (bs bl)) := f102.trans (congrArg some (r102 : vs 10 = (.string (bs bl))))
                  obtain ⟨f104, r104⟩ := hd 12 (by kernel_rfl)
                  have e104 : a.tmps[104]? = some (.string (bs bl)) := f104.trans (congrArg some (r104 : vs 12 = (.string (bs bl))))
                  obtain ⟨f99, r99⟩ := hd 7 (by kernel_rfl)
                  have e99 : a.tmps[99]? = some (.bool true) := f99.trans (congrArg some (r99 : vs 7 = (.bool true)))
                  refine ⟨_, rfl, rfl, fun K hK => ?_⟩
                  refine value_ (w1 := w') (v := .bool true) (wanted_on rfl rfl rfl e99) rfl ?_ (hK _ _ (by exact rfl) (Below.refl _ _))
                  · go_simp
                    (try simp only [i64_w, bs_list])
                    (try rfl)
                    (try (unfold Go.RowKit.wrap64; omega))
                refine gsteps_cons ?_ ?_
                · intro a w' vs hB hel hd
                  obtain ⟨f99, r99⟩ := hd 7 (by kernel_rfl)
                  have e99 : a.tmps[99]? = some (.bool true) := f99.trans (congrArg some (r99 : vs 7 = (.bool true)))
                  obtain ⟨f105, r105⟩ := hd 13 (by kernel_rfl)
                  have e105 : a.tmps[105]? = some (.bool true) := f105.trans (congrArg some (r105 : vs 13 = (.bool true)))
                  refine ⟨_, rfl, rfl, fun K hK => ?_⟩
                  refine value_ (w1 := w') (v := .bool true) (by rfl) rfl ?_ (hK _ _ (by exact rfl) (Below.refl _ _))
                  · go_simp
                    (try simp only [i64_w, bs_list])
                    (try rfl)
                    (try (unfold Go.RowKit.wrap64; omega))
                refine gsteps_cons ?_ ?_
                · intro a w' vs hB hel hd
                  obtain ⟨f106, r106⟩ := hd 14 (by kernel_rfl)
                  have e106 : a.tmps[106]? = some (.bool true) := f106.trans (congrArg some (r106 : vs 14 = (.bool true)))
                  refine ⟨_, rfl, rfl, fun K hK => ?_⟩
                  refine value_ (w1 := w') (v := .bool true) (by rfl) rfl ?_ (hK _ _ (by exact rfl) (Below.refl _ _))
                  · go_simp
                    (try simp only [i64_w, bs_list])
                    (try rfl)
                    (try (unfold Go.RowKit.wrap64; omega))
                exact gsteps_nil
              · intro vs w' hB hR
                have hv0_ : vs 0 = (.slice A5 Kp c5) := hR 0 (by kernel_rfl)
                have hv1_ : vs 1 = (.string (bs bl)) := hR 1 (by kernel_rfl)
                have hv2_ : vs 2 = (.slice Av L.length cv) := hR 2 (by kernel_rfl)
                have hv3_ : vs 3 = (.int .i64 (Kp : Int)) := hR 3 (by kernel_rfl)
                have hv4_ : vs 4 = (.slice Av Kp cv) := hR 4 (by kernel_rfl)
                have hv5_ : vs 5 = (.string (bs bl)) := hR 5 (by kernel_rfl)
                have hv6_ : vs 6 = (.bool true) := hR 6 (by kernel_rfl)
                have hv7_ : vs 7 = (.bool true) := hR 7 (by kernel_rfl)
                have hv8_ : vs 8 = (.pointer (some ⟨b, 0, none⟩)) := hR 8 (by kernel_rfl)
                obtain ⟨A9_, c9_, hv9_, hC9_⟩ := (hR 9 (by kernel_rfl) : (RRead bl) (vs 9) w')
                have hv10_ : vs 10 = (.string (bs bl)) := hR 10 (by kernel_rfl)
                have hv11_ : vs 11 = (.slice A5 Kp c5) := hR 11 (by kernel_rfl)
                have hv12_ : vs 12 = (.string (bs bl)) := hR 12 (by kernel_rfl)
                have hv13_ : vs 13 = (.bool true) := hR 13 (by kernel_rfl)
                have hv14_ : vs 14 = (.bool true) := hR 14 (by kernel_rfl)
                have hv15_ : vs 15 = (.bool true) := hR 15 (by kernel_rfl)
                rw [show entries [92, 93, 94, 95, 96, 97, 98, 99, 100, 101, 102, 103, 104, 105, 106, 8] vs = [(0, 92, vs 0), (1, 93, vs 1), (2, 94, vs 2), (3, 95, vs 3), (4, 96, vs 4), (5, 97, vs 5), (6, 98, vs 6), (7, 99, vs 7), (8, 100, vs 8), (9, 101, vs 9), (10, 102, vs 10), (11, 103, vs 11), (12, 104, vs 12), (13, 105, vs 13), (14, 106, vs 14), (15, 8, vs 15)] from rfl]
                simp only [putSel, if_true, Act.put, List.setIfInBounds_toArray, List.set_cons_zero, List.set_cons_succ, hv0_, hv1_, hv2_, hv3_, hv4_, hv5_, hv6_, hv7_, hv8_, hv9_, hv10_, hv11_, hv12_, hv13_, hv14_, hv15_]
                clear hR hv0_ hv1_ hv2_ hv3_ hv4_ hv5_ hv6_ hv7_ hv8_ hv10_ hv11_ hv12_ hv13_ hv14_ hv15_
                go_wp2
                go_ret
                exact ⟨rfl, H6.out.bel.trans (hB.mono H6.out.bel.size)⟩
            · rw [if_neg hkp] at hke2
              obtain rfl : Kp = t := by omega
              clear hke2
              go_wp2_with fail
              refine (m_crash again H5.out.dd).mono ?_
              rintro e w6 hp
              rw [show (DM.mk (L.take Kp) Kp 10000 (-1)).crash again = ⟨L.take Kp, Kp, 10000, -1⟩ from by simp [DM.crash, DM.kept, HTK.out, List.take_take]] at hp
              obtain ⟨rfl, row6, hD6, hN6, hK6⟩ := hp
              have H6 := Aside0.mk (H5.out.step hD6 hN6 hK6)
              have HW6 := Aside0.mk (HW5.out.step hK6 hN6)
              have hc6 := (kb_R (OB.kb HV5.out hK6 H4.out.dd.lt (fun k e => H4.out.row_lt k e))).2.2
              have hc6 : kb.C w6 A5 Kp (L.take Kp) := by have q := hc6; simp only [HTK.out] at q; exact q
              have HC6 := Aside0.mk hc6
              obtain ⟨Av', cv', hve, _, hcL⟩ := HW6.out.reads
              simp only [Value.slice.injEq] at hve
              obtain ⟨rfl, _, rfl⟩ := hve
              have HCL := Aside0.mk (C_take_n hcL Kp hKL)
              have hcut := cut_h Av L.length cv Kp (Kp : Int) rfl hKL hcv
              have hHD := Aside0.mk H6.out.dd
              obtain ⟨bl, hbl⟩ : ∃ bl, bl = L.take Kp := ⟨_, rfl⟩
              have HBL := Aside0.mk (show (DM.mk (L.take Kp) Kp 10000 (-1)).bs = bl from hbl.symm)
              have HBLN := Aside0.mk (show bl.length = Kp from by rw [hbl]; exact HTK.out)
              rw [← hbl] at HC6 HCL
              clear hD6 hN6 hK6 hc6 hcL hbl
              go_wp2
              refine grow_rs [92, 93, 94, 95, 96, 97, 98, 99, 100, 101, 102, 103, 104, 105, 106, 8] [fun v _ => v = (.slice A5 Kp c5), fun v _ => v = (.string (bs bl)), fun v _ => v = (.slice Av L.length cv), fun v _ => v = (.int .i64 (Kp : Int)), fun v _ => v = (.slice Av Kp cv), fun v _ => v = (.string (bs bl)), fun v _ => v = (.bool true), fun v _ => v = (.bool true), fun v _ => v = (.pointer (some ⟨b, 0, none⟩)), RRead bl, fun v _ => v = (.string (bs bl)), fun v _ => v = (.slice A5 Kp c5), fun v _ => v = (.string (bs bl)), fun v _ => v = (.bool true), fun v _ => v = (.bool true), fun v _ => v = (.bool true)] [0, 1, 2, 3, 4, 5, 6, 7, 8, 9, 10, 11, 12, 13, 14, 15] (true, [([], []), ([0], [0]), ([], []), ([], []), ([2, 3], [2, 3]), ([4], [4]), ([1, 5], [1, 5]), ([6], [6]), ([7], [7]), ([8, 7, 7], [7, 8]), ([9, 7], [7, 9]), ([7], [7]), ([11, 7], [7, 11]), ([10, 12, 7], [7, 10, 12]), ([7, 13], [7, 13]), ([14, 9, 0, 1, 2, 3, 4, 5, 6, 7, 8, 9, 10, 11, 12, 13, 14], [14])]) [0, 1, 0, 0, 12, 28, 63, 127, 255, 511, 1023, 255, 2303, 8191, 16383, 32767] (by kernel_rfl) (by kernel_rfl) (by kernel_rfl) (by kernel_rfl) (by kernel_rfl) (by kernel_rfl) (by kernel_rfl) (by rfl) (by kernel_rfl) ?_ ?_ ?_
              · exact (Rms_cons (Rm_eq _) (Rms_cons (Rm_eq _) (Rms_cons (Rm_eq _) (Rms_cons (Rm_eq _) (Rms_cons (Rm_eq _) (Rms_cons (Rm_eq _) (Rms_cons (Rm_eq _) (Rms_cons (Rm_eq _) (Rms_cons (Rm_eq _) (Rms_cons (Rm_read bl) (Rms_cons (Rm_eq _) (Rms_cons (Rm_eq _) (Rms_cons (Rm_eq _) (Rms_cons (Rm_eq _) (Rms_cons (Rm_eq _) (Rms_cons (Rm_eq _) Rms_nil))))))))))))))))
              · refine gsteps_cons ?_ ?_
                · intro a w' vs hB hel hd
                  have e15 : a.tmps[15]? = some (.slice A5 Kp c5) := (hel 15 (by kernel_rfl)).trans (by rfl)
                  refine ⟨_, rfl, rfl, fun K hK => ?_⟩
                  refine value_ (w1 := w') (v := .slice A5 Kp c5) (by rfl) rfl ?_ (hK _ _ (by exact rfl) (Below.refl _ _))
                  · go_simp
                    (try simp only [i64_w, bs_list])
                    (try rfl)
                    (try (unfold Go.RowKit.wrap64; omega))
                refine gsteps_cons ?_ ?_
                · intro a w' vs hB hel hd
                  obtain ⟨f92, r92⟩ := hd 0 (by kernel_rfl)
                  have e92 : a.tmps[92]? = some (.slice A5 Kp c5) := f92.trans (congrArg some (r92 : vs 0 = (.slice A5 Kp c5)))
                  have q1 := conv_string (c := c5) (Kd.C_below HC6.out hB)
                  refine ⟨_, rfl, rfl, fun K hK => ?_⟩
                  refine value_ (w1 := w') (v := .string (bs bl)) (by rfl) rfl ?_ (hK _ _ (by exact rfl) (Below.refl _ _))
                  · go_simp
                    (try simp only [i64_w, bs_list])
                    (try rfl)
                    (try (unfold Go.RowKit.wrap64; omega))
                refine gsteps_cons ?_ ?_
                · intro a w' vs hB hel hd
                  have e12 : a.tmps[12]? = some (.slice Av L.length cv) := (hel 12 (by kernel_rfl)).trans (by rfl)
                  refine ⟨_, rfl, rfl, fun K hK => ?_⟩
                  refine value_ (w1 := w') (v := .slice Av L.length cv) (by rfl) rfl ?_ (hK _ _ (by exact rfl) (Below.refl _ _))
                  · go_simp
                    (try simp only [i64_w, bs_list])
                    (try rfl)
                    (try (unfold Go.RowKit.wrap64; omega))
                refine gsteps_cons ?_ ?_
                · intro a w' vs hB hel hd
                  have e16 : a.tmps[16]? = some (.int .i64 (Kp : Int)) := (hel 16 (by kernel_rfl)).trans (by rfl)
                  refine ⟨_, rfl, rfl, fun K hK => ?_⟩
                  refine value_ (w1 := w') (v := .int .i64 (Kp : Int)) (by rfl) rfl ?_ (hK _ _ (by exact rfl) (Below.refl _ _))
                  · go_simp
                    (try simp only [i64_w, bs_list])
                    (try rfl)
                    (try (unfold Go.RowKit.wrap64; omega))
                refine gsteps_cons ?_ ?_
                · intro a w' vs hB hel hd
                  obtain ⟨f94, r94⟩ := hd 2 (by kernel_rfl)
                  have e94 : a.tmps[94]? = some (.slice Av L.length cv) := f94.trans (congrArg some (r94 : vs 2 = (.slice Av L.length cv)))
                  obtain ⟨f95, r95⟩ := hd 3 (by kernel_rfl)
                  have e95 : a.tmps[95]? = some (.int .i64 (Kp : Int)) := f95.trans (congrArg some (r95 : vs 3 = (.int .i64 (Kp : Int))))
                  have q1 := hcut
                  refine ⟨_, rfl, rfl, fun K hK => ?_⟩
                  refine value_ (w1 := w') (v := .slice Av Kp cv) (by rfl) rfl ?_ (hK _ _ (by exact rfl) (Below.refl _ _))
                  · go_simp
                    (try simp only [i64_w, bs_list])
                    (try rfl)
                    (try (unfold Go.RowKit.wrap64; omega))
                refine gsteps_cons ?_ ?_
                · intro a w' vs hB hel hd
                  obtain ⟨f96, r96⟩ := hd 4 (by kernel_rfl)
                  have e96 : a.tmps[96]? = some (.slice Av Kp cv) := f96.trans (congrArg some (r96 : vs 4 = (.slice Av Kp cv)))
                  have q1 := conv_string (c := cv) (Kd.C_below HCL.out hB)
                  refine ⟨_, rfl, rfl, fun K hK => ?_⟩
                  refine value_ (w1 := w') (v := .string (bs bl)) (by rfl) rfl ?_ (hK _ _ (by exact rfl) (Below.refl _ _))
                  · go_simp
                    (try simp only [i64_w, bs_list])
                    (try rfl)
                    (try (unfold Go.RowKit.wrap64; omega))
                refine gsteps_cons ?_ ?_
                · intro a w' vs hB hel hd
                  obtain ⟨f93, r93⟩ := hd 1 (by kernel_rfl)
                  have e93 : a.tmps[93]? = some (.string (bs bl)) := f93.trans (congrArg some (r93 : vs 1 = (.string (bs bl))))
                  obtain ⟨f97, r97⟩ := hd 5 (by kernel_rfl)
                  have e97 : a.tmps[97]? = some (.string (bs bl)) := f97.trans (congrArg some (r97 : vs 5 = (.string (bs bl))))
                  refine ⟨_, rfl, rfl, fun K hK => ?_⟩
                  refine value_ (w1 := w') (v := .bool true) (by rfl) rfl ?_ (hK _ _ (by exact rfl) (Below.refl _ _))
                  · go_simp
                    (try simp only [i64_w, bs_list])
                    (try rfl)
                    (try (unfold Go.RowKit.wrap64; omega))
                refine gsteps_cons ?_ ?_
                · intro a w' vs hB hel hd
                  obtain ⟨f98, r98⟩ := hd 6 (by kernel_rfl)
                  have e98 : a.tmps[98]? = some (.bool true) := f98.trans (congrArg some (r98 : vs 6 = (.bool true)))
                  refine ⟨_, rfl, rfl, fun K hK => ?_⟩
                  refine value_ (w1 := w') (v := .bool true) (by rfl) rfl ?_ (hK _ _ (by exact rfl) (Below.refl _ _))
                  · go_simp
                    (try simp only [i64_w, bs_list])
                    (try rfl)
                    (try (unfold Go.RowKit.wrap64; omega))
                refine gsteps_cons ?_ ?_
                · intro a w' vs hB hel hd
                  have e11 : a.tmps[11]? = some (.pointer (some ⟨b, 0, none⟩)) := (hel 11 (by kernel_rfl)).trans (by rfl)
                  obtain ⟨f99, r99⟩ := hd 7 (by kernel_rfl)
                  have e99 : a.tmps[99]? = some (.bool true) := f99.trans (congrArg some (r99 : vs 7 = (.bool true)))
                  refine ⟨_, rfl, rfl, fun K hK => ?_⟩
                  refine value_ (w1 := w') (v := .pointer (some ⟨b, 0, none⟩)) (wanted_on rfl rfl rfl e99) rfl ?_ (hK _ _ (by exact rfl) (Below.refl _ _))
                  · go_simp
                    (try simp only [i64_w, bs_list])
                    (try rfl)
                    (try (unfold Go.RowKit.wrap64; omega))
                refine gsteps_cons ?_ ?_
                · intro a w' vs hB hel hd
                  obtain ⟨f100, r100⟩ := hd 8 (by kernel_rfl)
                  have e100 : a.tmps[100]? = some (.pointer (some ⟨b, 0, none⟩)) := f100.trans (congrArg some (r100 : vs 8 = (.pointer (some ⟨b, 0, none⟩))))
                  obtain ⟨f99, r99⟩ := hd 7 (by kernel_rfl)
                  have e99 : a.tmps[99]? = some (.bool true) := f99.trans (congrArg some (r99 : vs 7 = (.bool true)))
                  refine ⟨_, rfl, rfl, fun K hK => ?_⟩
                  refine goes_ Tryd.func29 (by kernel_rfl) rfl #[.pointer (some ⟨b, 0, none⟩)] (wanted_on rfl rfl rfl e99) rfl rfl (by first | (simp only [List.map_toArray, List.map_cons, List.map_nil, Act.eval, Array.getD_eq_getD_getElem?, Option.getD_some, e100, e99]; done) | (simp only [List.map_toArray, List.map_cons, List.map_nil, Act.eval, Array.getD_eq_getD_getElem?, Option.getD_some, e100, e99]; rfl)) ?_
                  refine (m_read (hHD.out.below hB)).mono ?_
                  rintro e_ w2_ ⟨v_, rfl, hv_, hb2_⟩
                  rw [HBL.out] at hv_
                  obtain ⟨A_, c_, rfl, _, hC_⟩ := hv_.reads
                  exact ⟨_, rfl, hK _ _ ⟨A_, c_, rfl, hC_⟩ hb2_⟩
                refine gsteps_cons ?_ ?_
                · intro a w' vs hB hel hd
                  obtain ⟨f101, r101⟩ := hd 9 (by kernel_rfl)
                  obtain ⟨A9_, c9_, hv9_, hC9_⟩ := (r101 : (RRead bl) (vs 9) w')
                  have e101 : a.tmps[101]? = some (.slice A9_ bl.length c9_) := f101.trans (congrArg some hv9_)
                  obtain ⟨f99, r99⟩ := hd 7 (by kernel_rfl)
                  have e99 : a.tmps[99]? = some (.bool true) := f99.trans (congrArg some (r99 : vs 7 = (.bool true)))
                  have q1 := conv_string (c := c9_) hC9_
                  refine ⟨_, rfl, rfl, fun K hK => ?_⟩
                  refine value_ (w1 := w') (v := .string (bs bl)) (wanted_on rfl rfl rfl e99) rfl ?_ (hK _ _ (by exact rfl) (Below.refl _ _))
                  · go_simp
                    (try simp only [i64_w, bs_list])
                    (try rfl)
                    (try (unfold Go.RowKit.wrap64; omega))
                refine gsteps_cons ?_ ?_
                · intro a w' vs hB hel hd
                  have e15 : a.tmps[15]? = some (.slice A5 Kp c5) := (hel 15 (by kernel_rfl)).trans (by rfl)
                  obtain ⟨f99, r99⟩ := hd 7 (by kernel_rfl)
                  have e99 : a.tmps[99]? = some (.bool true) := f99.trans (congrArg some (r99 : vs 7 = (.bool true)))
                  refine ⟨_, rfl, rfl, fun K hK => ?_⟩
                  refine value_ (w1 := w') (v := .slice A5 Kp c5) (wanted_on rfl rfl rfl e99) rfl ?_ (hK _ _ (by exact rfl) (Below.refl _ _))
                  · go_simp
                    (try simp only [i64_w, bs_list])
                    (try rfl)
                    (try (unfold Go.RowKit.wrap64; omega))
                refine gsteps_cons ?_ ?_
                · intro a w' vs hB hel hd
                  obtain ⟨f103, r103⟩ := hd 11 (by kernel_rfl)
                  have e103 : a.tmps[103]? = some (.slice A5 Kp c5) := f103.trans (congrArg some (r103 : vs 11 = (.slice A5 Kp c5)))
                  obtain ⟨f99, r99⟩ := hd 7 (by kernel_rfl)
                  have e99 : a.tmps[99]? = some (.bool true) := f99.trans (congrArg some (r99 : vs 7 = (.bool true)))
                  have q1 := conv_string (c := c5) (Kd.C_below HC6.out hB)
                  refine ⟨_, rfl, rfl, fun K hK => ?_⟩
                  refine value_ (w1 := w') (v := .string (bs bl)) (wanted_on rfl rfl rfl e99) rfl ?_ (hK _ _ (by exact rfl) (Below.refl _ _))
                  · go_simp
                    (try simp only [i64_w, bs_list])
                    (try rfl)
                    (try (unfold Go.RowKit.wrap64; omega))
                refine gsteps_cons ?_ ?_
                · intro a w' vs hB hel hd
                  obtain ⟨f102, r102⟩ := hd 10 (by kernel_rfl)
                  have e102 : a.tmps[102]? = some (.string (bs bl)) := f102.trans (congrArg some (r102 : vs 10 = (.string (bs bl))))
                  obtain ⟨f104, r104⟩ := hd 12 (by kernel_rfl)
                  have e104 : a.tmps[104]? = some (.string (bs bl)) := f104.trans (congrArg some (r104 : vs 12 = (.string (bs bl))))
                  obtain ⟨f99, r99⟩ := hd 7 (by kernel_rfl)
                  have e99 : a.tmps[99]? = some (.bool true) := f99.trans (congrArg some (r99 : vs 7 = (.bool true)))
                  refine ⟨_, rfl, rfl, fun K hK => ?_⟩
                  refine value_ (w1 := w') (v := .bool true) (wanted_on rfl rfl rfl e99) rfl ?_ (hK _ _ (by exact rfl) (Below.refl _ _))
                  · go_simp
                    (try simp only [i64_w, bs_list])
                    (try rfl)
                    (try (unfold Go.RowKit.wrap64; omega))
                refine gsteps_cons ?_ ?_
                · intro a w' vs hB hel hd
                  obtain ⟨f99, r99⟩ := hd 7 (by kernel_rfl)
                  have e99 : a.tmps[99]? = some (.bool true) := f99.trans (congrArg some (r99 : vs 7 = (.bool true)))
                  obtain ⟨f105, r105⟩ := hd 13 (by kernel_rfl)
                  have e105 : a.tmps[105]? = some (.bool true) := f105.trans (congrArg some (r105 : vs 13 = (.bool true)))
                  refine ⟨_, rfl, rfl, fun K hK => ?_⟩
                  refine value_ (w1 := w') (v := .bool true) (by rfl) rfl ?_ (hK _ _ (by exact rfl) (Below.refl _ _))
                  · go_simp
                    (try simp only [i64_w, bs_list])
                    (try rfl)
                    (try (unfold Go.RowKit.wrap64; omega))
                refine gsteps_cons ?_ ?_
                · intro a w' vs hB hel hd
                  obtain ⟨f106, r106⟩ := hd 14 (by kernel_rfl)
                  have e106 : a.tmps[106]? = some (.bool true) := f106.trans (congrArg some (r106 : vs 14 = (.bool true)))
                  refine ⟨_, rfl, rfl, fun K hK => ?_⟩
                  refine value_ (w1 := w') (v := .bool true) (by rfl) rfl ?_ (hK _ _ (by exact rfl) (Below.refl _ _))
                  · go_simp
                    (try simp only [i64_w, bs_list])
                    (try rfl)
                    (try (unfold Go.RowKit.wrap64; omega))
                exact gsteps_nil
              · intro vs w' hB hR
                have hv0_ : vs 0 = (.slice A5 Kp c5) := hR 0 (by kernel_rfl)
                have hv1_ : vs 1 = (.string (bs bl)) := hR 1 (by kernel_rfl)
                have hv2_ : vs 2 = (.slice Av L.length cv) := hR 2 (by kernel_rfl)
                have hv3_ : vs 3 = (.int .i64 (Kp : Int)) := hR 3 (by kernel_rfl)
                have hv4_ : vs 4 = (.slice Av Kp cv) := hR 4 (by kernel_rfl)
                have hv5_ : vs 5 = (.string (bs bl)) := hR 5 (by kernel_rfl)
                have hv6_ : vs 6 = (.bool true) := hR 6 (by kernel_rfl)
                have hv7_ : vs 7 = (.bool true) := hR 7 (by kernel_rfl)
                have hv8_ : vs 8 = (.pointer (some ⟨b, 0, none⟩)) := hR 8 (by kernel_rfl)
                obtain ⟨A9_, c9_, hv9_, hC9_⟩ := (hR 9 (by kernel_rfl) : (RRead bl) (vs 9) w')
                have hv10_ : vs 10 = (.string (bs bl)) := hR 10 (by kernel_rfl)
                have hv11_ : vs 11 = (.slice A5 Kp c5) := hR 11 (by kernel_rfl)
                have hv12_ : vs 12 = (.string (bs bl)) := hR 12 (by kernel_rfl)
                have hv13_ : vs 13 = (.bool true) := hR 13 (by kernel_rfl)
                have hv14_ : vs 14 = (.bool true) := hR 14 (by kernel_rfl)
                have hv15_ : vs 15 = (.bool true) := hR 15 (by kernel_rfl)
                rw [show entries [92, 93, 94, 95, 96, 97, 98, 99, 100, 101, 102, 103, 104, 105, 106, 8] vs = [(0, 92, vs 0), (1, 93, vs 1), (2, 94, vs 2), (3, 95, vs 3), (4, 96, vs 4), (5, 97, vs 5), (6, 98, vs 6), (7, 99, vs 7), (8, 100, vs 8), (9, 101, vs 9), (10, 102, vs 10), (11, 103, vs 11), (12, 104, vs 12), (13, 105, vs 13), (14, 106, vs 14), (15, 8, vs 15)] from rfl]
                simp only [putSel, if_true, Act.put, List.setIfInBounds_toArray, List.set_cons_zero, List.set_cons_succ, hv0_, hv1_, hv2_, hv3_, hv4_, hv5_, hv6_, hv7_, hv8_, hv9_, hv10_, hv11_, hv12_, hv13_, hv14_, hv15_]
                clear hR hv0_ hv1_ hv2_ hv3_ hv4_ hv5_ hv6_ hv7_ hv8_ hv10_ hv11_ hv12_ hv13_ hv14_ hv15_
                go_wp2
                go_ret
                exact ⟨rfl, H6.out.bel.trans (hB.mono H6.out.bel.size)⟩
theorem diskLasts_walk (A : Option Addr) (c : Nat) (l : List (List UInt8)) (sy keep again : Int) (w0 : World) (h : (Kd.slice 5 kb).C w0 A l.length l) (hc : l.length ≤ c) (hok : l.length ≤ 140737488351232 ∧ ∀ x ∈ l, x.length ≤ 140737488351232) (hsy : 0 ≤ sy ∧ sy < 256) (hke : -9223372036854775808 ≤ keep ∧ keep ≤ 9223372036854775807) (hag : -9223372036854775808 ≤ again ∧ again ≤ 9223372036854775807) :
    Calls Tryd.prog 3 #[.slice A l.length c, .int .u8 sy, .int .i64 keep, .int .i64 again] w0 fun e w' => e = .returned (.bool true) ∧ Below w0.heap.size w0 w' := by
  by_cases h1 : 100 < (l.length : Int)
  · exact diskLasts_many A c l sy keep again w0 h h1 (by have := hok.1; omega)
  · exact diskLasts_few A c l sy keep again w0 hsy hke h (by omega) hok.2
end Go.Proofs.YtbbhjceelghadaaDoor.K
end
