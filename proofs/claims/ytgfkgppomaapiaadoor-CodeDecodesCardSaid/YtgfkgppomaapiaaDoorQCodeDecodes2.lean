/- Parts of the proof, one behind the other: Base, Row, Card, Order, K0, CodeP, ReadN, ReadL, RefG, RefH, ReadS, Region, RegCS, ReadF, RefK, RefL, ReadE, CodeB. -/
import Derived.Test.YtgfkgppomaapiaaDoorQCodeDecodes1
import Derived.Test.YtgfkgppomaapiaaDoorProg
import Derived.WalkSpells
import Derived.WalkLawsBesides
import Derived.RegionTactic
import Derived.ChangeAlike
import Derived.Lib.Hide
import Derived.Lib.SlBytesConst
import Derived.ProofKit
import Derived.OpenShut
import Derived.ShutString
import Derived.ChangeOld
import Derived.SizedLaws
import Derived.ChangeSlices
import Derived.Test.YtgfkgppomaapiaaDoorCards
import Derived.Test.YtgfkgppomaapiaaDoorTie
import Derived.LaidMore
import Derived.Stop.Joined
import Derived.Deep.DeepHandedRow
import Derived.Test.YtgfkgppomaapiaaDoorRows
import Derived.JoinedCond
import Derived.Lib.BufferMore
import Derived.Shelf.Abstract
set_option linter.unusedVariables false
set_option linter.unusedSimpArgs false
section
namespace Go.Proofs.YtgfkgppomaapiaaDoor.My
open Go Go.RowKit Go.Proofs.YtgfkgppomaapiaaDoorW.PrintWords
def kb : Kd UInt8 := Kd.scalar (fun b => Value.int .u8 (b.toNat : Int)) (fun _ => rfl)
theorem C_at {w : World} {A : Option Addr} {n : Nat} {l : List UInt8} (h : kb.C w A n l) (i : Nat) (hi : i < n) : ∃ ad, A = some ad ∧ w.cell? (ad.add i) = some (.int .u8 (l.getD i 0).toNat) := by
  obtain ⟨ad, c, e, hl, hK, hc⟩ := Kd.C_get h 0 (i : Int) (by omega) (by omega)
  have hK' : c = [.int .u8 (l.getD i 0).toNat] := hK
  subst hK'
  have := hc 0 _ rfl
  simp only [Int.toNat_natCast, Nat.add_zero] at this
  rw [show kb.sz = 1 from rfl, Nat.mul_one] at this
  exact ⟨ad, e, this⟩
theorem kQ {α : Type} {d : Kd α} {w : World} {A : Option Addr} {n : Nat} {l : List α} (h : d.C w A n l) : n ≤ 9223372036854775807 := h.2.1
theorem mO {α : Type} (d : α) (l : List α) (k : Nat) (h : k < l.length) : l.take (k + 1) = l.take k ++ [l.getD k d] := by
  rw [List.take_succ_eq_append_getElem h, List.getD_eq_getElem?_getD, List.getElem?_eq_getElem h]; rfl
def Cs (W : World) (cs : List Value) (ls : List (List UInt8)) : Prop :=
  cs.length = ls.length ∧ ∀ (i : Nat) (l : List UInt8), ls[i]? = some l → ∃ A c, cs[i]? = some (.slice A l.length c) ∧ l.length ≤ c ∧ kb.C W A l.length l
theorem Cs.cons {W : World} {cs : List Value} {ls : List (List UInt8)} {A : Option Addr} {c n : Nat} {l : List UInt8} (h : kb.C W A n l) (hc : n ≤ c) (hs : Cs W cs ls) : Cs W (.slice A n c :: cs) (l :: ls) := by
  have hn := h.1
  subst hn
  refine ⟨by simp [hs.1], fun i x hx => ?_⟩
  rcases i with _ | i
  · obtain rfl : l = x := by simpa using hx
    exact ⟨A, c, rfl, hc, h⟩
  · exact hs.2 i x (by simpa using hx)
theorem iT {W : World} {o : Obj} {b : Nat} (hb : b = W.heap.size) : (W.alloc o).heap[b]? = some o := by
  subst hb
  show (W.heap.push o)[W.heap.size]? = _
  simp
theorem jG {W : World} {o o' : Obj} {b : Nat} (h : W.heap[b]? = some o') : (W.alloc o).heap[b]? = some o' := by
  rw [Below.heap_alloc _ _ _ (iZ h)]
  exact h
theorem iK {W W' : World} {o : Obj} {b : Nat} (hb : Below W.heap.size W W') (h : W.heap[b]? = some o) : W'.heap[b]? = some o := (hb.block b (iZ h)).trans h
theorem xN : (Tryd.prog.info? 5).map (·.size) = some 1 := by kernel_rfl
theorem U7 {w : World} {A : Option Addr} {c : Nat} {l : List UInt8} (h : kb.C w A l.length l) (hc : l.length ≤ c) (lo : Nat) (loI : Int) (e1 : loI = lo) (h1 : lo ≤ l.length) :
    ∃ A', (∀ W : World, (Instr.slice 33 (.slice A l.length c) (some (.int .i64 loI)) none none).run Tryd.prog W = .ok (.slice A' (l.length - lo) (c - lo)) W) ∧ kb.C w A' (l.length - lo) (l.drop lo) := by
  subst e1
  obtain ⟨i, hi0, hsz⟩ := Option.map_eq_some_iff.1 xN
  have hl : (l.drop lo).length = l.length - lo := List.length_drop
  refine ⟨if c = lo then A else A.map (·.add lo), fun W => ?_, ?_⟩
  · have hel : Tryd.prog.elem 33 = 5 := by simp [Program.elem, Tryd.underlying33]
    have hu : Tryd.prog.underlying 33 = some (.slice (Tryd.prog.elem 33)) := by rw [hel]; exact Tryd.underlying33
    rw [run_slice_l W 33 A l.length c hu .i64 (lo : Int) (Int.natCast_nonneg _) (by omega), hel]
    simp [sizeOf, typeInfo, hi0, hsz, sliced, Result.andThen]
  · have := Kd.C_drop h h1 hc
    rw [hl, show lo * kb.sz = lo from Nat.mul_one _] at this
    exact this
theorem UO (A : Option Addr) (n c hi : Nat) (hiI : Int) (e1 : hiI = hi) (h1 : hi ≤ n) (hc : n ≤ c) :
    ∀ W : World, (Instr.slice 33 (.slice A n c) none (some (.int .i64 hiI)) none).run Tryd.prog W = .ok (.slice A hi c) W := by
  subst e1
  intro W
  obtain ⟨i, hi0, hsz⟩ := Option.map_eq_some_iff.1 xN
  have hel : Tryd.prog.elem 33 = 5 := by simp [Program.elem, Tryd.underlying33]
  have hu : Tryd.prog.underlying 33 = some (.slice (Tryd.prog.elem 33)) := by rw [hel]; exact Tryd.underlying33
  rw [run_slice_h W 33 A n c hu .i64 (hi : Int) (Int.natCast_nonneg _) (by omega), hel]
  simp [sizeOf, typeInfo, hi0, hsz, sliced, Result.andThen]
  intro _
  cases A with
  | none => rfl
  | some a => simp [Addr.add]
def bs (l : List UInt8) : ByteArray := ⟨l.toArray⟩
theorem P8 (l : List UInt8) : (bs l).data.toList = l := by simp [bs]
theorem kP (l : List UInt8) : (bs l).toList = l := by rw [ByteArray.toList_eq, P8]
theorem LK {w : World} {A : Option Addr} {n : Nat} {l : List UInt8} (h : kb.C w A n l) : LG w .u8 A n (l.map fun b => (b.toNat : Int)) := by
  refine ⟨by rw [List.length_map]; exact h.1, h.2.1, fun hn => ?_⟩
  obtain ⟨ad, e, _⟩ := h.2.2 hn
  refine ⟨ad, e, fun i hi => ?_⟩
  obtain ⟨ad', e', hc⟩ := C_at h i hi
  obtain rfl : ad = ad' := by rw [e] at e'; injection e'
  rw [hc, List.getD_eq_getElem?_getD, List.getD_eq_getElem?_getD, List.getElem?_map]
  rw [List.getElem?_eq_getElem (by have := h.1; omega)]
  rfl
theorem qA (l : List UInt8) : strOfNums (l.map fun b => (b.toNat : Int)) = bs l := by
  unfold strOfNums bs
  congr 1
  apply Array.ext'
  simp only [List.map_map]
  conv => rhs; rw [← List.map_id l]
  apply List.map_congr_left
  intro b _
  simp
theorem JI {w : World} {A : Option Addr} {n c : Nat} {l : List UInt8} (h : kb.C w A n l) : (convert 33 9 (.slice A n c)).run Tryd.prog w = .ok (.string (bs l)) w := by
  rw [← qA]
  exact oZ Tryd.underlying33 Tryd.underlying5 Tryd.underlying9 (LK h)
end Go.Proofs.YtgfkgppomaapiaaDoor.My
end
section
namespace Go.Proofs.YtgfkgppomaapiaaDoorW.PrintMore
open Go Go.RowKit Go.Proofs.YtgfkgppomaapiaaDoorW.PrintWords Go.Proofs.YtgfkgppomaapiaaDoorW.PrintLast Go.Proofs.YtgfkgppomaapiaaDoorW.PrintMore
theorem bel_ {p : Prop} (h : p := by (with_reducible (repeat (first | exact Below.refl _ _ | apply iF | apply rW | apply iG | apply Go.Proofs.YtgfkgppomaapiaaDoor.My.below_bytesWorld | (refine iJ ?_ (by first | assumption | omega)) | refine iI ?_ (by assumption))))) : p := h
theorem hb_ {p : Prop} (h : p := by repeat (first | (with_reducible first | exact HB.out | apply iF | apply iG | apply iH) | exact HB.out)) : p := h
theorem asm_ {p : Prop} (h : p := by first | (with_reducible assumption) | assumption) : p := h
theorem bk_ {p q : Prop} (h : p) (f : p → q := by intro h; (with_reducible repeat (first | refine kS ?_ _ | refine kJ ?_ | refine kM ?_ _)); exact h) : q := f h
end Go.Proofs.YtgfkgppomaapiaaDoorW.PrintMore
end

section
namespace Go.Proofs.YtgfkgppomaapiaaDoor.My
open Go Go.RowKit Go.Proofs.YtgfkgppomaapiaaDoorW.PrintWords
theorem own : ownKnob Tryd.prog.godebug = none := by kernel_rfl
theorem laidOut : laidOutB Tryd.prog = true := by kernel_rfl
theorem wf_u8 {n : Int} (h : (Lit.int .u8 n).wf = true) : 0 ≤ n ∧ n < 256 := by
  have := bounds_u8 h
  omega
end Go.Proofs.YtgfkgppomaapiaaDoor.My
end

section
namespace Go.Proofs.YtgfkgppomaapiaaDoor.My
open Go Go.RowKit
theorem door_met (os : Os) (args : Array Value) : laidMetH Tryd.prog [("bytes.ErrTooLarge", Rows.laid_bytes_ErrTooLarge)] ((World.doorLaid Tryd.prog 400 os).forCall (fun _ _ => 0) ⟨#[], args, []⟩).memory :=
  show laidMetH Tryd.prog [("bytes.ErrTooLarge", Rows.laid_bytes_ErrTooLarge)] _ from laidMetH_of_parts3 (fuel := 8) (laidMet_of_run' 8 (by kernel_rfl) (by kernel_rfl)) (by kernel_rfl) (by kernel_rfl)
theorem JL (os : Os) (args : Array Value) : ((World.doorLaid Tryd.prog 400 os).forCall (fun _ _ => 0) ⟨#[], args, []⟩).Shaped Tryd.prog := World.shaped_of_RefB (by kernel_rfl) (by kernel_rfl)
theorem witness_door {H : Type} {enc : TypeId × Value → H} {os : Os} {f : FuncId} {fn : Func} {s : OpenSpec} (args : Array Value) {x : List (DataW H) × List (DataW H) × List MemPlace}
    (hok : Input.okWideB Tryd.prog ((World.doorLaid Tryd.prog 400 os).forCall (fun _ _ => 0) ⟨#[], args, []⟩) f ⟨#[], args, []⟩ = true)
    (hx : DataW.whole enc Tryd.prog ((World.doorLaid Tryd.prog 400 os).forCall (fun _ _ => 0) ⟨#[], args, []⟩).memory fn.params.toList s.vars false args.toList 8 = some x)
    (hkk : ∀ k, s.cond = some k → k H (x.1 ++ x.2.1) = true)
    (hsz : s.bare.sizedB enc Tryd.prog fn false ((World.doorLaid Tryd.prog 400 os).forCall (fun _ _ => 0) ⟨#[], args, []⟩).memory args 8 = true) :
    ∃ (w : World) (tape : Tape) (i : Input), w.os = os ∧ (w.forCall tape i).Shaped Tryd.prog ∧ i.vars = [] ∧ Input.okWide Tryd.prog (w.forCall tape i) .any w.heap.size f i ∧
      s.preRow enc Tryd.prog fn [] false [("bytes.ErrTooLarge", Rows.laid_bytes_ErrTooLarge)] (w.forCall tape i).memory i.args ∧ ({} : Assume).holds Tryd.prog (lone (Frame.enter Tryd.prog f i.args .normal) [] (w.forCall tape i)) :=
  ⟨World.doorLaid Tryd.prog 400 os, fun _ _ => 0, ⟨#[], args, []⟩, rfl, JL os args, (Input.okWide_of_okWideB (base := 0) hok).1, (Input.okWide_of_okWideB hok).2,
    OpenSpec.preRow_of_cond 8 hx rfl hkk hsz (door_met os args), by
    simp only [Assume.holds]
    exact ⟨by simp, by simp, fun _ => Modest.zero, by simp, by simp⟩⟩
end Go.Proofs.YtgfkgppomaapiaaDoor.My
end

section
namespace Go.Proofs.YtgfkgppomaapiaaDoor.My
open Go
set_option maxRecDepth 100000
theorem MS (c : Char) (h : c ≠ Char.ofNat 32) {r w : List Char} {ws : List (List Char)} (hr : wordsSigns r = w :: ws) : wordsSigns (c :: r) = (c :: w) :: ws := by
  unfold wordsSigns
  split
  · rename_i heq; cases heq
  · rename_i heq; injection heq with h1 _; exact absurd h1 h
  · rename_i heq; injection heq with h1 h2; subst h1; subst h2; rw [hr]
theorem qN : ∀ (w : List Char), (w.all fun c => decide (c ≠ Char.ofNat 32)) = true → ∀ r, wordsSigns (w ++ Char.ofNat 32 :: r) = w :: wordsSigns r
  | [], _, r => rfl
  | c :: w, h, r => by
    simp only [List.all_cons, Bool.and_eq_true, decide_eq_true_eq] at h
    exact MS c h.1 (qN w h.2 r)
def UI : List Char := [Char.ofNat 104, Char.ofNat 97, Char.ofNat 114, Char.ofNat 110, Char.ofNat 101, Char.ofNat 115, Char.ofNat 115]
def TA : List Char := [Char.ofNat 102, Char.ofNat 97, Char.ofNat 54, Char.ofNat 55, Char.ofNat 50, Char.ofNat 100, Char.ofNat 57, Char.ofNat 50, Char.ofNat 53, Char.ofNat 102, Char.ofNat 97, Char.ofNat 49, Char.ofNat 102, Char.ofNat 56, Char.ofNat 50, Char.ofNat 98, Char.ofNat 49, Char.ofNat 102, Char.ofNat 49, Char.ofNat 52,
    Char.ofNat 54, Char.ofNat 55, Char.ofNat 100, Char.ofNat 101, Char.ofNat 49, Char.ofNat 57, Char.ofNat 57, Char.ofNat 54, Char.ofNat 100, Char.ofNat 99, Char.ofNat 50, Char.ofNat 100, Char.ofNat 49, Char.ofNat 50, Char.ofNat 49, Char.ofNat 52, Char.ofNat 52, Char.ofNat 101, Char.ofNat 54, Char.ofNat 56,
    Char.ofNat 51, Char.ofNat 54, Char.ofNat 57, Char.ofNat 102, Char.ofNat 99, Char.ofNat 53, Char.ofNat 48, Char.ofNat 54, Char.ofNat 48, Char.ofNat 57, Char.ofNat 48, Char.ofNat 97, Char.ofNat 50, Char.ofNat 57, Char.ofNat 97, Char.ofNat 48, Char.ofNat 50, Char.ofNat 51, Char.ofNat 49, Char.ofNat 57,
    Char.ofNat 97, Char.ofNat 101, Char.ofNat 56, Char.ofNat 97]
def word2 : List Char := [Char.ofNat 99, Char.ofNat 117, Char.ofNat 116]
def behind : List Char := [Char.ofNat 97, Char.ofNat 116, Char.ofNat 32, Char.ofNat 115, Char.ofNat 116, Char.ofNat 114, Char.ofNat 97, Char.ofNat 116, Char.ofNat 117, Char.ofNat 109, Char.ofNat 47, Char.ofNat 115, Char.ofNat 116, Char.ofNat 114, Char.ofNat 97, Char.ofNat 116, Char.ofNat 117, Char.ofNat 109, Char.ofNat 108, Char.ofNat 97,
    Char.ofNat 119, Char.ofNat 48, Char.ofNat 55, Char.ofNat 46, Char.ofNat 67, Char.ofNat 111, Char.ofNat 100, Char.ofNat 101, Char.ofNat 69, Char.ofNat 110, Char.ofNat 99, Char.ofNat 111, Char.ofNat 100, Char.ofNat 101, Char.ofNat 115, Char.ofNat 32, Char.ofNat 115, Char.ofNat 116, Char.ofNat 114, Char.ofNat 97,
    Char.ofNat 116, Char.ofNat 117, Char.ofNat 109, Char.ofNat 47, Char.ofNat 115, Char.ofNat 116, Char.ofNat 114, Char.ofNat 97, Char.ofNat 116, Char.ofNat 117, Char.ofNat 109, Char.ofNat 108, Char.ofNat 97, Char.ofNat 119, Char.ofNat 48, Char.ofNat 55, Char.ofNat 46, Char.ofNat 67, Char.ofNat 111, Char.ofNat 100,
    Char.ofNat 101, Char.ofNat 77, Char.ofNat 97, Char.ofNat 107, Char.ofNat 101, Char.ofNat 115, Char.ofNat 32, Char.ofNat 115, Char.ofNat 116, Char.ofNat 114, Char.ofNat 97, Char.ofNat 116, Char.ofNat 117, Char.ofNat 109, Char.ofNat 47, Char.ofNat 115, Char.ofNat 116, Char.ofNat 114, Char.ofNat 97, Char.ofNat 116,
    Char.ofNat 117, Char.ofNat 109, Char.ofNat 108, Char.ofNat 97, Char.ofNat 119, Char.ofNat 48, Char.ofNat 55, Char.ofNat 46, Char.ofNat 67, Char.ofNat 111, Char.ofNat 100, Char.ofNat 101, Char.ofNat 68, Char.ofNat 101, Char.ofNat 99, Char.ofNat 111, Char.ofNat 100, Char.ofNat 101, Char.ofNat 115, Char.ofNat 32,
    Char.ofNat 115, Char.ofNat 116, Char.ofNat 114, Char.ofNat 97, Char.ofNat 116, Char.ofNat 117, Char.ofNat 109, Char.ofNat 47, Char.ofNat 115, Char.ofNat 116, Char.ofNat 114, Char.ofNat 97, Char.ofNat 116, Char.ofNat 117, Char.ofNat 109, Char.ofNat 108, Char.ofNat 97, Char.ofNat 119, Char.ofNat 49, Char.ofNat 54,
    Char.ofNat 46, Char.ofNat 77, Char.ofNat 115, Char.ofNat 103, Char.ofNat 69, Char.ofNat 110, Char.ofNat 99, Char.ofNat 111, Char.ofNat 100, Char.ofNat 101, Char.ofNat 115, Char.ofNat 32, Char.ofNat 115, Char.ofNat 116, Char.ofNat 114, Char.ofNat 97, Char.ofNat 116, Char.ofNat 117, Char.ofNat 109, Char.ofNat 47,
    Char.ofNat 115, Char.ofNat 116, Char.ofNat 114, Char.ofNat 97, Char.ofNat 116, Char.ofNat 117, Char.ofNat 109, Char.ofNat 108, Char.ofNat 97, Char.ofNat 119, Char.ofNat 49, Char.ofNat 54, Char.ofNat 46, Char.ofNat 77, Char.ofNat 115, Char.ofNat 103, Char.ofNat 68, Char.ofNat 101, Char.ofNat 99, Char.ofNat 111,
    Char.ofNat 100, Char.ofNat 101, Char.ofNat 115, Char.ofNat 32, Char.ofNat 115, Char.ofNat 116, Char.ofNat 114, Char.ofNat 97, Char.ofNat 116, Char.ofNat 117, Char.ofNat 109, Char.ofNat 47, Char.ofNat 115, Char.ofNat 116, Char.ofNat 114, Char.ofNat 97, Char.ofNat 116, Char.ofNat 117, Char.ofNat 109, Char.ofNat 108,
    Char.ofNat 97, Char.ofNat 119, Char.ofNat 49, Char.ofNat 54, Char.ofNat 46, Char.ofNat 77, Char.ofNat 115, Char.ofNat 103, Char.ofNat 66, Char.ofNat 97, Char.ofNat 99, Char.ofNat 107, Char.ofNat 32, Char.ofNat 115, Char.ofNat 116, Char.ofNat 114, Char.ofNat 97, Char.ofNat 116, Char.ofNat 117, Char.ofNat 109,
    Char.ofNat 47, Char.ofNat 115, Char.ofNat 116, Char.ofNat 114, Char.ofNat 97, Char.ofNat 116, Char.ofNat 117, Char.ofNat 109, Char.ofNat 108, Char.ofNat 97, Char.ofNat 119, Char.ofNat 49, Char.ofNat 54, Char.ofNat 46, Char.ofNat 77, Char.ofNat 115, Char.ofNat 103, Char.ofNat 79, Char.ofNat 110, Char.ofNat 108,
    Char.ofNat 121, Char.ofNat 32, Char.ofNat 115, Char.ofNat 116, Char.ofNat 114, Char.ofNat 97, Char.ofNat 116, Char.ofNat 117, Char.ofNat 109, Char.ofNat 47, Char.ofNat 115, Char.ofNat 116, Char.ofNat 114, Char.ofNat 97, Char.ofNat 116, Char.ofNat 117, Char.ofNat 109, Char.ofNat 108, Char.ofNat 97, Char.ofNat 119,
    Char.ofNat 49, Char.ofNat 54, Char.ofNat 46, Char.ofNat 77, Char.ofNat 115, Char.ofNat 103, Char.ofNat 65, Char.ofNat 112, Char.ofNat 97, Char.ofNat 114, Char.ofNat 116, Char.ofNat 32, Char.ofNat 115, Char.ofNat 116, Char.ofNat 114, Char.ofNat 97, Char.ofNat 116, Char.ofNat 117, Char.ofNat 109, Char.ofNat 47,
    Char.ofNat 115, Char.ofNat 116, Char.ofNat 114, Char.ofNat 97, Char.ofNat 116, Char.ofNat 117, Char.ofNat 109, Char.ofNat 108, Char.ofNat 97, Char.ofNat 119, Char.ofNat 49, Char.ofNat 54, Char.ofNat 46, Char.ofNat 77, Char.ofNat 115, Char.ofNat 103, Char.ofNat 75, Char.ofNat 105, Char.ofNat 110, Char.ofNat 100,
    Char.ofNat 115, Char.ofNat 32, Char.ofNat 115, Char.ofNat 116, Char.ofNat 114, Char.ofNat 97, Char.ofNat 116, Char.ofNat 117, Char.ofNat 109, Char.ofNat 47, Char.ofNat 115, Char.ofNat 116, Char.ofNat 114, Char.ofNat 97, Char.ofNat 116, Char.ofNat 117, Char.ofNat 109, Char.ofNat 108, Char.ofNat 97, Char.ofNat 119,
    Char.ofNat 49, Char.ofNat 49, Char.ofNat 46, Char.ofNat 87, Char.ofNat 97, Char.ofNat 108, Char.ofNat 82, Char.ofNat 111, Char.ofNat 111, Char.ofNat 109, Char.ofNat 32, Char.ofNat 115, Char.ofNat 116, Char.ofNat 114, Char.ofNat 97, Char.ofNat 116, Char.ofNat 117, Char.ofNat 109, Char.ofNat 47, Char.ofNat 115,
    Char.ofNat 116, Char.ofNat 114, Char.ofNat 97, Char.ofNat 116, Char.ofNat 117, Char.ofNat 109, Char.ofNat 108, Char.ofNat 97, Char.ofNat 119, Char.ofNat 49, Char.ofNat 49, Char.ofNat 46, Char.ofNat 87, Char.ofNat 97, Char.ofNat 108, Char.ofNat 70, Char.ofNat 114, Char.ofNat 111, Char.ofNat 110, Char.ofNat 116,
    Char.ofNat 115, Char.ofNat 32, Char.ofNat 115, Char.ofNat 116, Char.ofNat 114, Char.ofNat 97, Char.ofNat 116, Char.ofNat 117, Char.ofNat 109, Char.ofNat 47, Char.ofNat 115, Char.ofNat 116, Char.ofNat 114, Char.ofNat 97, Char.ofNat 116, Char.ofNat 117, Char.ofNat 109, Char.ofNat 108, Char.ofNat 97, Char.ofNat 119,
    Char.ofNat 49, Char.ofNat 49, Char.ofNat 46, Char.ofNat 87, Char.ofNat 97, Char.ofNat 108, Char.ofNat 76, Char.ofNat 97, Char.ofNat 115, Char.ofNat 116, Char.ofNat 115]
theorem Q4 : Tryd.prog.initOrder = String.ofList (UI ++ Char.ofNat 32 :: (TA ++ Char.ofNat 32 :: (word2 ++ Char.ofNat 32 :: behind))) := by kernel_rfl
theorem vS : wordsSigns Tryd.prog.initOrder.toList = UI :: TA :: word2 :: wordsSigns behind := by
  rw [Q4, String.toList_ofList, qN _ (by kernel_rfl), qN _ (by kernel_rfl), qN _ (by kernel_rfl)]
theorem oU : behindMainWord (wordsSigns Tryd.prog.initOrder.toList) = word2 :: wordsSigns behind := by rw [vS]; kernel_rfl
theorem TN {P : Program} {h s : List Char} {r : List (List Char)} (e : wordsSigns P.initOrder.toList = h :: s :: r) : P.mainIs = (if !isSumSigns s then none else if h == "harness".toList then some (true, s) else if h == "ownmain".toList then some (false, s) else none) := by unfold Program.mainIs; rw [e]
theorem TS {P : Program} {c : List Char} {r : List (List Char)} (e : behindMainWord (wordsSigns P.initOrder.toList) = c :: r) (h1 : (c == "gc".toList || c == "spec".toList) = false) (h2 : (c == "cut".toList) = true) : P.make = some .cut := by
  unfold Program.make; rw [e]; simp only [h1, h2]; rfl
theorem U5 {P : Program} {c : List Char} {r : List (List Char)} (e : behindMainWord (wordsSigns P.initOrder.toList) = c :: r) (h : ((stripLifts liftWords (c :: r)).2.head? == some "cut".toList && ((stripLifts liftWords (c :: r)).1.contains "finals" || !P.laysLater) && ((stripLifts liftWords (c :: r)).1.contains "reflectrows" || !P.bearsReflect) && ((stripLifts liftWords (c :: r)).1.contains "reflectrows" || !(stripLifts liftWords (c :: r)).1.contains "leanrows") && P.doorFits (stripLifts liftWords (c :: r)).1) = true) : P.mayEnter = true := by
  unfold Program.mayEnter; rw [e]; simp only [h, Bool.or_true]
theorem Q8 : stripLifts liftWords (word2 :: wordsSigns behind) = ([], word2 :: wordsSigns behind) := by kernel_rfl
theorem O8 : Tryd.prog.mayEnter = true := U5 oU (by rw [Q8]; kernel_rfl)
theorem JA : Tryd.prog.liftsFinal = false := by unfold Program.liftsFinal Program.headLifts; rw [oU]; kernel_rfl
theorem MP : Tryd.prog.make = some .cut := TS oU (by kernel_rfl) (by kernel_rfl)
theorem sum_is : ("fa672d925fa1f82b1f1467de1996dc2d12144e68369fc506090a29a02319ae8a" : String) = String.ofList TA := by kernel_rfl
theorem ML : Tryd.prog.mainIs = some (true, ("fa672d925fa1f82b1f1467de1996dc2d12144e68369fc506090a29a02319ae8a" : String).toList) := by rw [sum_is, String.toList_ofList]; exact (TN vS).trans (by kernel_rfl)
theorem pin_may : Tryd.pinned.checked.prog.mayEnter = true := O8
theorem pin_final : Tryd.pinned.checked.prog.liftsFinal = false := JA
theorem pin_make : Tryd.pinned.checked.prog.make = some .cut := MP
theorem pin_main : Tryd.pinned.checked.prog.mainIs = some (true, ("fa672d925fa1f82b1f1467de1996dc2d12144e68369fc506090a29a02319ae8a" : String).toList) := ML
theorem band {a b : Bool} (ha : a = true) (hb : b = true) : (a && b) = true := by rw [ha, hb]; rfl
end Go.Proofs.YtgfkgppomaapiaaDoor.My
end

section
namespace Go.Proofs.YtgfkgppomaapiaaDoor.K
open Go.RowKit Go.Proofs.YtgfkgppomaapiaaDoorW.PrintWords Go.Proofs.YtgfkgppomaapiaaDoorW.PrintLast Go.Proofs.YtgfkgppomaapiaaDoorW.PrintMore
def errW : Option Int → Value
  | none => .nilIface
  | some c => .iface 0 (.int .i64 c)
theorem iM : errW none = .nilIface := rfl
theorem iO (c : Int) : errW (some c) = .iface 0 (.int .i64 c) := rfl
theorem info3 : (Tryd.prog.info? 3).map (fun i => (i.zero, i.size, i.bytes)) = some (some (.int .i64 0), 1, 8) := by kernel_rfl
theorem info5 : (Tryd.prog.info? 5).map (fun i => (i.zero, i.size, i.bytes)) = some (some (.int .u8 0), 1, 1) := by kernel_rfl
theorem U3 : (Tryd.prog.info? 86).map (fun i => (i.zero, i.size, i.bytes)) = some (some (.agg #[(.int .u32 0), (.slice none 0 0)]), 2, 32) := by kernel_rfl
theorem U6 : (Tryd.prog.info? 98).map (fun i => (i.zero, i.size, i.bytes)) = some (some (.agg #[(.int .i64 0), (.int .i64 0)]), 2, 16) := by kernel_rfl
structure S139 where
  f0 : (List Int)
  f1 : Int
def z139 : S139 := ⟨([] : List Int), (0 : Int)⟩
def k139 : Kd S139 := Kd.iso (Kd.pair (Kd.slice 3 (Kd.int .i64)) (Kd.int .i64)) (fun x : S139 => (x.f0, x.f1))
theorem pG : Kd.Heap k139 := Kd.heap_iso _ (Kd.heap_pair (Kd.heap_slice 3 (Kd.heap_int .i64)) (Kd.heap_int .i64))
theorem PL {w : World} {x : S139} {cs : List Value} (h : k139.K w x cs) : ∃ A0 c0, cs = [.slice A0 x.f0.length c0, .int .i64 x.f1] ∧ x.f0.length ≤ c0 ∧ (Kd.int .i64).C w A0 x.f0.length x.f0 := by
  obtain ⟨_, _, rfl, ⟨A0, c0, rfl, l0, g0⟩, rfl⟩ := h
  exact ⟨A0, c0, rfl, l0, g0⟩
theorem LC (w : World) (base : Nat) (ok : Nat → Prop) (x : S139) {v0 : Value} (g0 : (Kd.int .i64).R 3 w base ok v0 x.f0) : k139.M w base ok x [v0, .int .i64 x.f1] := ⟨[v0], [.int .i64 x.f1], rfl, ⟨v0, rfl, g0⟩, rfl⟩
def iV (xs : List S139) (i : Int) : S139 := xs.getD i.toNat z139
theorem kN {w : World} {A : Option Addr} {n : Nat} {xs : List S139} (h : Kd.C k139 w A n xs) (i : Int) (h0 : 0 ≤ i) (h1 : i < n) : ∃ ad A0 c0, A = some ad ∧ w.cell? (ad.add (i.toNat * 2)) = some (.slice A0 (iV xs i).f0.length c0) ∧ w.cell? ⟨(ad.add (i.toNat * 2)).block, (ad.add (i.toNat * 2)).off + 1, none⟩ = some (.int .i64 (iV xs i).f1) ∧ (iV xs i).f0.length ≤ c0 ∧ (Kd.int .i64).C w A0 (iV xs i).f0.length (iV xs i).f0 := by
  obtain ⟨ad, c, e, _, hK, hc0⟩ := Kd.C_get h z139 i h0 h1
  have hc : ∀ j u, c[j]? = some u → w.cell? (ad.add (i.toNat * 2 + j)) = some u := hc0
  obtain ⟨A0, c0, rfl, l0, g0⟩ := PL hK
  exact ⟨ad, A0, c0, e, hc 0 _ rfl, by rw [← vY _ _ 1 (by omega)]; exact hc 1 _ rfl, l0, g0⟩
structure S86 where
  f0 : Int
  f1 : (List S139)
def z86 : S86 := ⟨(0 : Int), ([] : List S139)⟩
def k86 : Kd S86 := Kd.iso (Kd.pair (Kd.int .u32) (Kd.slice 139 k139)) (fun x : S86 => (x.f0, x.f1))
theorem Q3 {w : World} {x : S86} {cs : List Value} (h : k86.K w x cs) : ∃ A1 c1, cs = [.int .u32 x.f0, .slice A1 x.f1.length c1] ∧ x.f1.length ≤ c1 ∧ k139.C w A1 x.f1.length x.f1 := by
  obtain ⟨_, _, rfl, rfl, ⟨A1, c1, rfl, l1, g1⟩⟩ := h
  exact ⟨A1, c1, rfl, l1, g1⟩
theorem PE (w : World) (base : Nat) (ok : Nat → Prop) (x : S86) {v1 : Value} (g1 : k139.R 139 w base ok v1 x.f1) : k86.M w base ok x [.int .u32 x.f0, v1] := ⟨[.int .u32 x.f0], [v1], rfl, rfl, ⟨v1, rfl, g1⟩⟩
def iP (xs : List S86) (i : Int) : S86 := xs.getD i.toNat z86
theorem kV {w : World} {A : Option Addr} {n : Nat} {xs : List S86} (h : Kd.C k86 w A n xs) (i : Int) (h0 : 0 ≤ i) (h1 : i < n) : ∃ ad A1 c1, A = some ad ∧ w.cell? (ad.add (i.toNat * 2)) = some (.int .u32 (iP xs i).f0) ∧ w.cell? ⟨(ad.add (i.toNat * 2)).block, (ad.add (i.toNat * 2)).off + 1, none⟩ = some (.slice A1 (iP xs i).f1.length c1) ∧ (iP xs i).f1.length ≤ c1 ∧ k139.C w A1 (iP xs i).f1.length (iP xs i).f1 := by
  obtain ⟨ad, c, e, _, hK, hc0⟩ := Kd.C_get h z86 i h0 h1
  have hc : ∀ j u, c[j]? = some u → w.cell? (ad.add (i.toNat * 2 + j)) = some u := hc0
  obtain ⟨A1, c1, rfl, l1, g1⟩ := Q3 hK
  exact ⟨ad, A1, c1, e, hc 0 _ rfl, by rw [← vY _ _ 1 (by omega)]; exact hc 1 _ rfl, l1, g1⟩
structure S98 where
  f0 : Int
  f1 : Int
def z98 : S98 := ⟨(0 : Int), (0 : Int)⟩
def k98 : Kd S98 := Kd.iso (Kd.pair (Kd.int .i64) (Kd.int .i64)) (fun x : S98 => (x.f0, x.f1))
theorem QI {w : World} {x : S98} {cs : List Value} (h : k98.K w x cs) : cs = [.int .i64 x.f0, .int .i64 x.f1] := by
  obtain ⟨_, _, rfl, rfl, rfl⟩ := h
  exact rfl
theorem PG (w : World) (base : Nat) (ok : Nat → Prop) (x : S98)  : k98.M w base ok x [.int .i64 x.f0, .int .i64 x.f1] := ⟨[.int .i64 x.f0], [.int .i64 x.f1], rfl, rfl, rfl⟩
def jL (xs : List S98) (i : Int) : S98 := xs.getD i.toNat z98
theorem lI {w : World} {A : Option Addr} {n : Nat} {xs : List S98} (h : Kd.C k98 w A n xs) (i : Int) (h0 : 0 ≤ i) (h1 : i < n) : ∃ ad , A = some ad ∧ w.cell? (ad.add (i.toNat * 2)) = some (.int .i64 (jL xs i).f0) ∧ w.cell? ⟨(ad.add (i.toNat * 2)).block, (ad.add (i.toNat * 2)).off + 1, none⟩ = some (.int .i64 (jL xs i).f1) := by
  obtain ⟨ad, c, e, _, hK, hc0⟩ := Kd.C_get h z98 i h0 h1
  have hc : ∀ j u, c[j]? = some u → w.cell? (ad.add (i.toNat * 2 + j)) = some u := hc0
  obtain rfl := QI hK
  exact ⟨ad, e, hc 0 _ rfl, by rw [← vY _ _ 1 (by omega)]; exact hc 1 _ rfl⟩
end Go.Proofs.YtgfkgppomaapiaaDoor.K
end

section
namespace Go.Proofs.YtgfkgppomaapiaaDoor.K
open Go.RowKit Go.Proofs.YtgfkgppomaapiaaDoorW.PrintWords
abbrev jO := S139
abbrev jE := S86
abbrev jV := S98
structure SMap where
  f0 : Int
  f1 : List jV
structure SRec where
  f0 : Int
  f1 : Int
  f2 : Int
  f3 : List Int
  f4 : List jO
  f5 : SMap
  f6 : Int
  f7 : Int
  f8 : List jE
def layB (x : Int) : Nat → List UInt8
  | 0 => []
  | n + 1 => UInt8.ofNat ((x / 256 ^ n) % 256).toNat :: layB x n
theorem iL (x : Int) : ∀ n, (layB x n).length = n
  | 0 => rfl
  | n + 1 => by simp [layB, iL x n]
def numB (l : List UInt8) : Nat := l.foldl (fun n c => n * 256 + c.toNat) 0
theorem MI (l : List UInt8) : ∀ k : Nat, l.foldl (fun n c => n * 256 + c.toNat) k = k * 256 ^ l.length + numB l := by
  induction l with
  | nil => intro k; simp [numB]
  | cons c l ih =>
    intro k
    unfold numB
    simp only [List.foldl_cons, List.length_cons, Nat.zero_mul, Nat.zero_add]
    rw [ih, ih c.toNat, Nat.pow_succ, Nat.add_mul, Nat.mul_assoc, Nat.mul_comm 256, Nat.add_assoc]
theorem OJ (c : UInt8) (l : List UInt8) : numB (c :: l) = c.toNat * 256 ^ l.length + numB l := by
  show List.foldl _ _ (c :: l) = _
  simp only [List.foldl_cons, Nat.zero_mul, Nat.zero_add]
  rw [MI]
theorem OV (l : List UInt8) (c : UInt8) : numB (l ++ [c]) = numB l * 256 + c.toNat := by
  unfold numB; rw [List.foldl_append]; rfl
theorem rJ (l : List UInt8) : numB l < 256 ^ l.length := by
  induction l with
  | nil => simp [numB]
  | cons c l ih =>
    rw [OJ, List.length_cons, Nat.pow_succ]
    have := c.toNat_lt
    have : (c.toNat + 1) * 256 ^ l.length ≤ 256 * 256 ^ l.length := Nat.mul_le_mul_right _ (by omega)
    rw [Nat.add_mul] at this
    rw [Nat.mul_comm (256 ^ l.length)]
    omega
def number (size : Nat) (b : List UInt8) : Option (Nat × List UInt8) := if b.length < size then none else some (numB (b.take size), b.drop size)
def many (size least : Nat) (b : List UInt8) : Option (Nat × List UInt8) := (number size b).bind fun x => if x.1 > x.2.length / least then none else some x
def repP {α : Type} (p : List UInt8 → Option (α × List UInt8)) : Nat → List UInt8 → Option (List α × List UInt8)
  | 0, b => some ([], b)
  | n + 1, b => (p b).bind fun x => (repP p n x.2).bind fun y => some (x.1 :: y.1, y.2)
def intP (size : Nat) (b : List UInt8) : Option (Int × List UInt8) := (number size b).bind fun x => some ((x.1 : Int), x.2)
def s64 (n : Nat) : Int := if n < 9223372036854775808 then (n : Int) else (n : Int) - 18446744073709551616
def mF (b : List UInt8) : Option (List Int × List UInt8) := (many 1 1 b).bind fun x => repP (intP 1) x.1 x.2
def oD (b : List UInt8) : Option (jO × List UInt8) := (many 1 4 b).bind fun x => (repP (intP 4) x.1 x.2).bind fun y => (number 8 y.2).bind fun z => some (⟨y.1, s64 z.1⟩, z.2)
def lM (b : List UInt8) : Option (List jO × List UInt8) := (many 4 9 b).bind fun x => repP oD x.1 x.2
def lL (b : List UInt8) : Option (jE × List UInt8) := (intP 4 b).bind fun x => (lM x.2).bind fun y => some (⟨x.1, y.1⟩, y.2)
def kL (b : List UInt8) : Option (List jE × List UInt8) := (many 4 8 b).bind fun x => repP lL x.1 x.2
def qC (b : List UInt8) : Option (jV × List UInt8) := (intP 4 b).bind fun x => (intP 1 x.2).bind fun y => some (⟨x.1, y.1⟩, y.2)
def oK (b : List UInt8) : Option (List jV × List UInt8) := (many 1 5 b).bind fun x => repP qC x.1 x.2
def nO (k id : Int) (b : List UInt8) : Option (SRec × List UInt8) :=
  if k = 1 then (mF b).bind fun x => (lM x.2).bind fun y => some (⟨k, id, 0, x.1, y.1, ⟨0, []⟩, 0, 0, []⟩, y.2)
  else if k = 2 then (intP 4 b).bind fun x => (mF x.2).bind fun y => some (⟨k, id, x.1, y.1, [], ⟨0, []⟩, 0, 0, []⟩, y.2)
  else if k = 6 then (intP 4 b).bind fun x => (oK x.2).bind fun y => some (⟨k, id, 0, [], [], ⟨x.1, y.1⟩, 0, 0, []⟩, y.2)
  else if k = 7 then (intP 4 b).bind fun x => (intP 4 x.2).bind fun y => (kL y.2).bind fun z => some (⟨k, id, 0, [], [], ⟨0, []⟩, x.1, y.1, z.1⟩, z.2)
  else some (⟨k, id, 0, [], [], ⟨0, []⟩, 0, 0, []⟩, b)
def recP (b : List UInt8) : Option (SRec × List UInt8) := (intP 1 b).bind fun x => (intP 4 x.2).bind fun y => nO x.1 y.1 y.2
def lN (l : List Int) : List UInt8 := layB l.length 1 ++ l.flatMap (layB · 1)
def mV (f : jO) : List UInt8 := layB f.f0.length 1 ++ f.f0.flatMap (layB · 4) ++ layB f.f1 8
def kC (l : List jO) : List UInt8 := layB l.length 4 ++ l.flatMap mV
def lD (e : jE) : List UInt8 := layB e.f0 4 ++ kC e.f1
def jR (l : List jE) : List UInt8 := layB l.length 4 ++ l.flatMap lD
def mX (s : jV) : List UInt8 := layB s.f0 4 ++ layB s.f1 1
def QY (l : List jV) : List UInt8 := layB l.length 1 ++ l.flatMap mX
def zM (r : SRec) : List UInt8 :=
  if r.f0 = 1 then lN r.f3 ++ kC r.f4
  else if r.f0 = 2 then layB r.f2 4 ++ lN r.f3
  else if r.f0 = 6 then layB r.f5.f0 4 ++ QY r.f5.f1
  else if r.f0 = 7 then layB r.f6 4 ++ (layB r.f7 4 ++ jR r.f8)
  else []
def recE (r : SRec) : List UInt8 := layB r.f0 1 ++ (layB r.f1 4 ++ zM r)
def lU (last : Int) : List Int → Bool
  | [] => true
  | n :: l => last < n && n < 6 && lU n l
def nR (f : jO) : Bool := f.f0.length ≤ 4 && f.f0.all fun v => 0 ≤ v && v ≤ 9999
def lW (l : List jO) : Bool := l.length ≤ 200 && l.all nR
def mZ (p : Option Int) : List jE → Bool
  | [] => true
  | e :: l => lW e.f1 && (match p with | none => true | some q => decide (q < e.f0)) && mZ (some e.f0) l
def nC (l : List jE) : Bool := mZ none l
def lT (s : jV) : Bool := 0 ≤ s.f0 && s.f0 ≤ 9999 && 0 ≤ s.f1 && s.f1 < 6
def jJ (r : SRec) : Bool :=
  if r.f0 = 1 then lU (-1) r.f3 && lW r.f4 && r.f2 == 0 && r.f5.f0 == 0 && r.f5.f1.isEmpty && r.f6 == 0 && r.f7 == 0 && r.f8.isEmpty
  else if r.f0 = 2 then lU (-1) r.f3 && r.f4.isEmpty && r.f5.f0 == 0 && r.f5.f1.isEmpty && r.f6 == 0 && r.f7 == 0 && r.f8.isEmpty
  else if r.f0 = 3 || r.f0 = 4 || r.f0 = 5 then r.f2 == 0 && r.f3.isEmpty && r.f4.isEmpty && r.f5.f0 == 0 && r.f5.f1.isEmpty && r.f6 == 0 && r.f7 == 0 && r.f8.isEmpty
  else if r.f0 = 6 then r.f1 == 0 && r.f5.f1.length ≤ 40 && r.f5.f1.all lT && r.f2 == 0 && r.f3.isEmpty && r.f4.isEmpty && r.f6 == 0 && r.f7 == 0 && r.f8.isEmpty
  else if r.f0 = 7 then nC r.f8 && r.f8.length ≤ 5000 && 0 ≤ r.f6 && r.f6 ≤ 10000 && 0 ≤ r.f7 && r.f7 ≤ 10000 && r.f2 == 0 && r.f3.isEmpty && r.f4.isEmpty && r.f5.f0 == 0 && r.f5.f1.isEmpty
  else false
def JV (f : jO) : Prop := -9223372036854775808 ≤ f.f1 ∧ f.f1 < 9223372036854775808
def IK (e : jE) : Prop := 0 ≤ e.f0 ∧ e.f0 < 4294967296 ∧ ∀ f ∈ e.f1, JV f
structure RU (r : SRec) : Prop where
  kind : 0 ≤ r.f0 ∧ r.f0 < 256
  id : 0 ≤ r.f1 ∧ r.f1 < 4294967296
  at_ : 0 ≤ r.f2 ∧ r.f2 < 4294967296
  facts : ∀ f ∈ r.f4, JV f
  epoch : 0 ≤ r.f5.f0 ∧ r.f5.f0 < 4294967296
  entries : ∀ e ∈ r.f8, IK e
theorem vV : ∀ (l : List Int) (last : Int), lU last l = true → -1 ≤ last → (∀ n ∈ l, last < n ∧ n < 6) ∧ (l.length : Int) ≤ max 0 (5 - last)
  | [], last, _, _ => ⟨(fun _ h => by cases h), by simp; omega⟩
  | n :: l, last, h, h1 => by
    unfold lU at h
    simp only [Bool.and_eq_true, decide_eq_true_eq] at h
    obtain ⟨⟨ha, hb⟩, hc⟩ := h
    obtain ⟨i1, i2⟩ := vV l n hc (by omega)
    refine ⟨fun m hm => ?_, by simp only [List.length_cons]; omega⟩
    rcases List.mem_cons.1 hm with rfl | hm
    · exact ⟨ha, hb⟩
    · have := i1 m hm; omega
theorem uP (f : jO) : (mV f).length = 9 + 4 * f.f0.length := by
  unfold mV
  simp only [List.length_append, iL]
  have : ∀ l : List Int, (l.flatMap (layB · 4)).length = 4 * l.length := by
    intro l
    induction l with
    | nil => rfl
    | cons x l ih => rw [List.flatMap_cons, List.length_append, ih, iL, List.length_cons]; omega
  rw [this]
  omega
theorem uK : ∀ (l : List jE) (p : Option Int), mZ p l = true → ∀ e ∈ l, lW e.f1 = true
  | [], _, _, _, h => by cases h
  | e :: l, p, h, x, hx => by
    unfold mZ at h
    simp only [Bool.and_eq_true] at h
    rcases List.mem_cons.1 hx with rfl | hx
    · exact h.1.1
    · exact uK l _ h.2 x hx
theorem JG (l : List jE) (h : nC l = true) : ∀ e ∈ l, lW e.f1 = true := uK l none h
theorem nH {α : Type} {l : List α} (h : l.isEmpty = true) : l = [] := List.isEmpty_iff.1 h
end Go.Proofs.YtgfkgppomaapiaaDoor.K
end

section
namespace Go.Proofs.YtgfkgppomaapiaaDoor.K
open RowKit YtgfkgppomaapiaaDoorW.PrintWords YtgfkgppomaapiaaDoorW.PrintLast YtgfkgppomaapiaaDoorW.PrintMore My
def xP : List PanicEntry := [{ v := .iface 148 (.agg #[]), recovered := false }]
def Rd (w0 w : World) (g : Nat) (l : List UInt8) : Prop := ∃ A c, w.heap[g]? = some (.cells #[.slice A l.length c] 151 (0, 0)) ∧ l.length ≤ c ∧ kb.C w0 A l.length l
theorem Rd.grown {w0 w w' : World} {g : Nat} {l : List UInt8} (h : Rd w0 w g l) {row : Option Nat} (hg : w.grownBy w' row) (hne : some g ≠ row) : Rd w0 w' g l := by
  obtain ⟨A, c, hb, hc, hC⟩ := h
  exact ⟨A, c, (hg.block g (iZ hb) hne).trans hb, hc, hC⟩
theorem Rd.lt {w0 w : World} {g : Nat} {l : List UInt8} (h : Rd w0 w g l) : g < w.heap.size := by
  obtain ⟨A, c, hb, _⟩ := h
  exact iZ hb
theorem NC (w : World) (row : Option Nat) : w.grownBy w row := ⟨rfl, rfl, rfl, Nat.le_refl _, fun _ _ _ => rfl⟩
theorem iR {a w w' : World} {row : Option Nat} (h : a.grownBy w row) (k : w.grownBy w' row) : a.grownBy w' row :=
  ⟨k.os.trans h.os, k.tape.trans h.tape, k.output.trans h.output, Nat.le_trans h.size k.size, fun i hi hne => (k.block i (Nat.lt_of_lt_of_le hi h.size) hne).trans (h.block i hi hne)⟩
theorem kF (w : World) (g i : Nat) (v : Value) : w.grownBy (w.setCell ⟨g, i, none⟩ v) (some g) :=
  ⟨rfl, rfl, rfl, by simp [World.setCell], fun k _ hne => Below.heap_setCell _ _ _ _ (fun e => hne (by rw [e]))⟩
theorem grown_below {w w' : World} {row : Option Nat} (h : Below w.heap.size w w') : w.grownBy w' row := ⟨h.os, h.tape, h.output, h.size, fun k hk _ => h.block k hk⟩
theorem below_grown {B : Nat} {w0 w w' : World} {g : Nat} (h : Below B w0 w) (hg : w.grownBy w' (some g)) (hB : B ≤ g) (h0 : B ≤ w0.heap.size) : Below B w0 w' :=
  ⟨hg.os.trans h.os, hg.tape.trans h.tape, hg.output.trans h.output, Nat.le_trans h.size hg.size, fun k hk => (hg.block k (by have := h.size; omega) (fun e => by injection e with e; omega)).trans (h.block k hk)⟩
theorem pR (l : List UInt8) (k : Nat) (h : k < l.length) : numB (l.take (k + 1)) = numB (l.take k) * 256 + (l.getD k 0).toNat := by
  rw [mO 0 l k h, OV]
theorem uG (l : List UInt8) (k : Nat) (h : k ≤ 7) : numB (l.take k) < 72057594037927936 := by
  have h1 := rJ (l.take k)
  have h2 : (l.take k).length ≤ 7 := by rw [List.length_take]; omega
  have h3 : 256 ^ (l.take k).length ≤ 256 ^ 7 := Nat.pow_le_pow_right (by decide) h2
  have h4 : 256 ^ 7 = 72057594037927936 := by decide
  omega
theorem TC (n : Nat) (c : UInt8) (h : n < 72057594037927936) : bits .or .u64 ((n : Int) * 256) (c.toNat : Int) = ((n * 256 + c.toNat : Nat) : Int) := by
  have hc := c.toNat_lt
  rw [show ((n : Int) * 256) = ((n * 256 : Nat) : Int) by omega, u64_or_nat _ _ (by omega) (by omega)]
  congr 1
  have := Nat.shiftLeft_add_eq_or_of_lt (i := 8) (show c.toNat < 2 ^ 8 by omega) n
  rw [Nat.shiftLeft_eq] at this
  exact this.symm
set_option maxHeartbeats 2000000 in
theorem lY (s : Nat) (S : Int) (hS : S = s) (hs8 : s ≤ 8) (g : Nat) (l : List UInt8) (w0 w : World) (h : Rd w0 w g l) (hb : Below w0.heap.size w0 w) (hl : s ≤ l.length) :
    Calls Tryd.prog 119 #[.pointer (some ⟨g, 0, none⟩), .int .i64 S] w fun e w' => e = .returned (.int .u64 (numB (l.take s) : Int)) ∧ Rd w0 w' g (l.drop s) ∧ w.grownBy w' (some g) := by
  subst hS
  obtain ⟨A, c, hblk, hc, hC⟩ := h
  have HBL := iC.mk hblk
  have HB := iC.mk hb
  have hm := kQ hC
  have HC := iC.mk hC
  have z0 : w.cell? ⟨g, 0, none⟩ = some (.slice A l.length c) := (iE hblk 0).trans rfl
  have f0 : w.frozen? ⟨g, 0, none⟩ = false := iD hblk 0
  have hcut := UO A l.length c s (s : Int) rfl hl hc
  obtain ⟨A2, hcut2, hC2⟩ := U7 hC hc s (s : Int) rfl hl
  have HC2 := iC.mk hC2
  have hnot : ¬ (l.length : Int) < (s : Int) := by omega
  clear hblk hb hC hC2
  go_enter Tryd.func119, Tryd.ntmps119
  go_wp2
  go_loop [5, 24] (fun n i => ∃ k : Nat, k ≤ s ∧ i = .int .i64 k ∧ n = .int .u64 (numB (l.take k) : Int)) (fun _ i => s - (intOf i).toNat)
  case atStart => exact ⟨0, Nat.zero_le _, rfl, rfl⟩
  case round =>
    obtain ⟨k, hk, rfl, rfl⟩ := hrel
    by_cases hlt : k < s
    · obtain ⟨ad, rfl, hx⟩ := C_at (Kd.C_below HC.out HB.out) k (by omega)
      have hsn := iC.mk (pR l k (by omega))
      have hn := uG l k (by omega)
      generalize l.getD k 0 = cb at hx hsn
      have HOR := iC.mk (TC (numB (l.take k)) cb hn)
      obtain ⟨n, hnn⟩ : ∃ n, n = numB (l.take k) := ⟨_, rfl⟩
      rw [← hnn] at hn HOR hsn ⊢
      clear hnn
      have hnI : (n : Int) < 72057594037927936 := by omega
      clear hn
      have hcb := cb.toNat_lt
      go_wp2
      go_round
      case rel => exact ⟨k + 1, by omega, by go_num, by rw [hsn.out, ← HOR.out]⟩
      case measure => simp [intOf]; omega
    · obtain rfl : k = s := by omega
      go_wp2
      go_ret
      refine ⟨rfl, ⟨A2, c - k, ?_, by rw [List.length_drop]; omega, ?_⟩, kF _ _ _ _⟩
      · rw [List.length_drop]
        exact (Lib.heap_setCell_same HBL.out _).trans rfl
      · rw [List.length_drop]
        exact HC2.out
set_option maxHeartbeats 1000000 in
theorem jT (s : Nat) (S : Int) (hS : S = s) (g : Nat) (l : List UInt8) (w0 w : World) (h : Rd w0 w g l) (hl : l.length < s) :
    Calls Tryd.prog 119 #[.pointer (some ⟨g, 0, none⟩), .int .i64 S] w fun e w' => e = .panicked xP ∧ w.grownBy w' (some g) := by
  subst hS
  obtain ⟨A, c, hblk, hc, hC⟩ := h
  have hm := kQ hC
  have z0 : w.cell? ⟨g, 0, none⟩ = some (.slice A l.length c) := (iE hblk 0).trans rfl
  have f0 : w.frozen? ⟨g, 0, none⟩ = false := iD hblk 0
  have hyes : (l.length : Int) < (s : Int) := by omega
  clear hblk hC
  go_enter Tryd.func119, Tryd.ntmps119
  go_wp2
  exact ⟨rfl, rfl, NC _ _⟩
theorem lQ {s : Nat} {l l' : List UInt8} {n : Nat} (h : number s l = some (n, l')) : s ≤ l.length ∧ n = numB (l.take s) ∧ l' = l.drop s := by
  unfold number at h
  split at h
  · cases h
  · injection h with h
    injection h with h1 h2
    exact ⟨by omega, h1.symm, h2.symm⟩
theorem qF {s : Nat} {l : List UInt8} (h : number s l = none) : l.length < s := by
  unfold number at h
  split at h
  · assumption
  · cases h
theorem qU (a b : Nat) (h : a ≤ 9223372036854775807) : wrap64 ((a : Int) / (b : Int)) = (a : Int) / (b : Int) ∧ IntKind.u64.wrap ((a : Int) / (b : Int)) = (a : Int) / (b : Int) := by
  rw [← Int.natCast_ediv]
  have h1 : a / b ≤ a := Nat.div_le_self _ _
  generalize a / b = q at h1 ⊢
  constructor
  · unfold wrap64; omega
  · rw [IntKind.wrap_u64]; omega
set_option maxHeartbeats 2000000 in
theorem vT (s least : Nat) (S T : Int) (hS : S = s) (hT : T = least) (hs8 : s ≤ 8) (h1 : 1 ≤ least) (g : Nat) (l l' : List UInt8) (n : Nat) (w0 w : World) (h : Rd w0 w g l) (hb : Below w0.heap.size w0 w) (hg : w0.heap.size ≤ g) (hl : many s least l = some (n, l')) :
    Calls Tryd.prog 130 #[.pointer (some ⟨g, 0, none⟩), .int .i64 S, .int .i64 T] w fun e w' => e = .returned (.int .i64 (n : Int)) ∧ Rd w0 w' g l' ∧ w.grownBy w' (some g) ∧ n * least ≤ l'.length := by
  subst hT
  unfold many at hl
  obtain ⟨⟨m, r⟩, hn, hl⟩ := Option.bind_eq_some_iff.1 hl
  simp only at hl
  split at hl
  · cases hl
  injection hl with hl
  injection hl with e1 e2
  subst e1; subst e2
  rename_i hle
  obtain ⟨hsl, hm, hr⟩ := lQ hn
  have hle' : m * least ≤ r.length := by
    have : m ≤ r.length / least := by omega
    exact (Nat.le_div_iff_mul_le (by omega)).1 this
  have hmd : ¬ ((r.length : Int) / (least : Int)) < (m : Int) := by
    rw [← Int.natCast_ediv]
    omega
  have hcall := lY s S hS hs8 g l w0 w h hb hsl
  rw [← hm, ← hr] at hcall
  have HLE := iC.mk hle'
  clear hn hm hr hle hle' h hb hsl hS
  have hl1 : (1 : Int) ≤ (least : Int) := by omega
  go_enter Tryd.func130, Tryd.ntmps130
  go_wp2_with (go_at_call 119; refine hcall.mono ?_; rintro e w1 ⟨rfl, hR, hG⟩; obtain ⟨A1, c1, hblk, hc1, hC1⟩ := hR; have HBL := iC.mk hblk; have HC1 := iC.mk hC1; have hm1 := kQ hC1; have z0 : w1.cell? ⟨g, 0, none⟩ = some (.slice A1 r.length c1) := (iE hblk 0).trans rfl; clear hblk hC1; obtain ⟨hq1, hq2⟩ := qU r.length least hm1; have hmr : (m : Int) ≤ 9223372036854775807 := by (have := HLE.out; have := Nat.le_mul_of_pos_right m (show 0 < least by omega); omega))
  go_ret
  exact ⟨rfl, ⟨A1, c1, HBL.out, hc1, HC1.out⟩, hG, HLE.out⟩
set_option maxHeartbeats 2000000 in
theorem o7 (s least : Nat) (S T : Int) (hS : S = s) (hT : T = least) (hs8 : s ≤ 8) (h1 : 1 ≤ least) (g : Nat) (l : List UInt8) (w0 w : World) (h : Rd w0 w g l) (hb : Below w0.heap.size w0 w) (hg : w0.heap.size ≤ g) (hl : many s least l = none) :
    Calls Tryd.prog 130 #[.pointer (some ⟨g, 0, none⟩), .int .i64 S, .int .i64 T] w fun e w' => e = .panicked xP ∧ w.grownBy w' (some g) := by
  subst hT
  unfold many at hl
  cases hn : number s l with
  | none =>
    have hcall := jT s S hS g l w0 w h (qF hn)
    clear hn hl h hb hS
    go_enter Tryd.func130, Tryd.ntmps130
    go_wp2_with (go_at_call 119; refine hcall.mono ?_; rintro e w1 ⟨rfl, hG⟩)
    exact ⟨rfl, rfl, hG⟩
  | some x =>
    obtain ⟨m, r⟩ := x
    rw [hn] at hl
    simp only [Option.bind_some] at hl
    split at hl
    · rename_i hgt
      obtain ⟨hsl, hm, hr⟩ := lQ hn
      have hmd : ((r.length : Int) / (least : Int)) < (m : Int) := by
        rw [← Int.natCast_ediv]
        omega
      have hcall := lY s S hS hs8 g l w0 w h hb hsl
      rw [← hm, ← hr] at hcall
      clear hn hm hr hgt h hb hsl hS hl
      have hl1 : (1 : Int) ≤ (least : Int) := by omega
      go_enter Tryd.func130, Tryd.ntmps130
      go_wp2_with (go_at_call 119; refine hcall.mono ?_; rintro e w1 ⟨rfl, hR, hG⟩; obtain ⟨A1, c1, hblk, hc1, hC1⟩ := hR; have hm1 := kQ hC1; have z0 : w1.cell? ⟨g, 0, none⟩ = some (.slice A1 r.length c1) := (iE hblk 0).trans rfl; clear hblk hC1; obtain ⟨hq1, hq2⟩ := qU r.length least hm1)
      exact ⟨rfl, rfl, hG⟩
    · cases hl
end Go.Proofs.YtgfkgppomaapiaaDoor.K
end

section
namespace Go.Proofs.YtgfkgppomaapiaaDoor.K
open RowKit YtgfkgppomaapiaaDoorW.PrintWords YtgfkgppomaapiaaDoorW.PrintLast YtgfkgppomaapiaaDoorW.PrintMore My
def PP {α : Type} (res : Option (α × List UInt8)) (val : α → Value → World → Prop) (w0 w : World) (g : Nat) (e : Ending) (w' : World) : Prop :=
  w.grownBy w' (some g) ∧ ((∃ x l' v, res = some (x, l') ∧ e = .returned v ∧ val x v w' ∧ Rd w0 w' g l') ∨ (res = none ∧ e = .panicked xP))
theorem PP.ok {α : Type} {res : Option (α × List UInt8)} {val : α → Value → World → Prop} {w0 w w' : World} {g : Nat} {e : Ending} {x : α} {l : List UInt8} (h : PP res val w0 w g e w') (hr : res = some (x, l)) : ∃ v, e = .returned v ∧ val x v w' ∧ Rd w0 w' g l ∧ w.grownBy w' (some g) := by
  obtain ⟨hg, ⟨x', l', v, h1, h2, h3, h4⟩ | ⟨h1, _⟩⟩ := h
  · rw [hr] at h1
    injection h1 with h1
    injection h1 with h1 h5
    subst h1; subst h5
    exact ⟨v, h2, h3, h4, hg⟩
  · rw [hr] at h1; cases h1
theorem PP.short {α : Type} {res : Option (α × List UInt8)} {val : α → Value → World → Prop} {w0 w w' : World} {g : Nat} {e : Ending} (h : PP res val w0 w g e w') (hr : res = none) : e = .panicked xP ∧ w.grownBy w' (some g) := by
  obtain ⟨hg, ⟨x', l', v, h1, _⟩ | ⟨_, h2⟩⟩ := h
  · rw [hr] at h1; cases h1
  · exact ⟨h2, hg⟩
def RI (w : World) (base : Nat) (v : Value) (xs : List Int) : Prop := Kd.R (Kd.int .i64) 3 w base (fun _ => True) v xs
theorem jM {α : Type} {d : Kd α} {e : Nat} {w w1 : World} {base : Nat} {ok : Nat → Prop} {v : Value} {xs : List α} {g : Nat} (h : d.R e w base ok v xs) (hg : w.grownBy w1 (some g)) (hlt : g < base) : d.R e w1 base ok v xs :=
  Kd.R_mono (Kd.R_grown (Kd.R_bound h) hg (fun k hk e => by have := hk.2.1; injection e with e; omega)) (fun _ hk => hk.1)
theorem NI {α : Type} {d : Kd α} {e : Nat} {w : World} {base : Nat} {ok : Nat → Prop} {ad : Addr} {n cap : Nat} {xs : List α} (h : d.R e w base ok (.slice (some ad) n cap) xs) : ∃ g, ad = ⟨g, 0, none⟩ := Kd.R_head h
theorem TJ {w : World} {base : Nat} {ad : Addr} {n c : Nat} {xs : List Int} (h : RI w base (.slice (some ad) n c) xs) (k : Nat) (hk : k < n) (x : Int) :
    (∃ old, w.cell? (ad.add k) = some old) ∧ w.frozen? (ad.add k) = false ∧ base ≤ ad.block ∧
    RI (w.setCell (ad.add k) (.int .i64 x)) base (.slice (some ad) n c) (xs.set k x) ∧ w.grownBy (w.setCell (ad.add k) (.int .i64 x)) (some ad.block) := by
  obtain ⟨g, rfl⟩ := NI h
  have ho := Kd.own_of_R (enc := Value.int .i64) (h1 := fun _ => rfl) h
  obtain ⟨hlen, _, hC⟩ := Kd.R_reads' h
  obtain ⟨A1, e1, hx⟩ := Kd.at_int hC (k : Int) (by omega) (by omega)
  injection e1 with e1
  subst e1
  rw [Int.toNat_natCast] at hx
  obtain ⟨cells, hc⟩ := uQ ho g (by simp [Value.ownBlock])
  rw [← hlen] at ho
  obtain ⟨h2, h3⟩ := zD ho (k : Int) x
  rw [Int.toNat_natCast] at h2 h3
  have ha : (⟨g, 0, none⟩ : Addr).add k = ⟨g, k, none⟩ := by rw [add_plain]
  rw [ha] at hx ⊢
  refine ⟨⟨_, hx⟩, iD hc k, ?_, Kd.R_of_own ?_ (fun _ _ => trivial), h3⟩
  · exact Kd.R_base h g (by simp [Value.ownBlock])
  · rw [List.length_set, ← hlen]
    exact h2
theorem QZ {W : World} {n base : Nat} (hn : n ≤ 9223372036854775807) (hb : base ≤ W.heap.size) : RI (W.alloc (.cells (madeCells #[.int .i64 0] n) 3)) base (.slice (some ⟨W.heap.size, 0, none⟩) n n) (List.replicate n 0) := by
  refine Kd.R_of_own ?_ (fun _ _ => trivial)
  have h := World.ownsRow_lit (base := base) (e := 3) (size := 1) W (madeCells #[.int .i64 0] n) n hb (by unfold maxLen; omega) (by simp [madeCells])
  rw [List.length_replicate]
  have e : (madeCells #[.int .i64 0] n).toList = encs (Value.int .i64) (List.replicate n 0) := by
    apply List.ext_getElem
    · simp [madeCells, encs]
    · intro i h1 h2
      simp [madeCells, Nat.mod_one, encs]
  rw [← e]
  exact h
theorem jU {w w1 w2 : World} {g b : Nat} (h : w.grownBy w1 (some g)) (k : w1.grownBy w2 (some b)) (hb : w.heap.size ≤ b) : w.grownBy w2 (some g) :=
  ⟨k.os.trans h.os, k.tape.trans h.tape, k.output.trans h.output, Nat.le_trans h.size k.size, fun i hi hne => (k.block i (Nat.lt_of_lt_of_le hi h.size) (fun e => by injection e with e; omega)).trans (h.block i hi hne)⟩
theorem uV {α : Type} (p : List UInt8 → Option (α × List UInt8)) (n : Nat) (b : List UInt8) : repP p (n + 1) b = (p b).bind fun x => (repP p n x.2).bind fun y => some (x.1 :: y.1, y.2) := rfl
def Left {α : Type} (p : List UInt8 → Option (α × List UInt8)) (n k : Nat) (l r : List UInt8) (done : List α) : Prop :=
  done.length = k ∧ repP p n l = (repP p (n - k) r).bind fun y => some (done ++ y.1, y.2)
theorem Left.start {α : Type} (p : List UInt8 → Option (α × List UInt8)) (n : Nat) (l : List UInt8) : Left p n 0 l l [] := by
  refine ⟨rfl, ?_⟩
  rw [Nat.sub_zero]
  cases repP p n l <;> rfl
theorem Left.next {α : Type} {p : List UInt8 → Option (α × List UInt8)} {n k : Nat} {l r r' : List UInt8} {done : List α} {x : α} (h : Left p n k l r done) (hk : k < n) (hp : p r = some (x, r')) : Left p n (k + 1) l r' (done ++ [x]) := by
  refine ⟨by rw [List.length_append, h.1]; rfl, ?_⟩
  rw [h.2, show n - k = (n - (k + 1)) + 1 by omega, uV, hp]
  simp only [Option.bind_some]
  cases repP p (n - (k + 1)) r' with
  | none => rfl
  | some y => simp
theorem Left.fail {α : Type} {p : List UInt8 → Option (α × List UInt8)} {n k : Nat} {l r : List UInt8} {done : List α} (h : Left p n k l r done) (hk : k < n) (hp : p r = none) : repP p n l = none := by
  rw [h.2, show n - k = (n - (k + 1)) + 1 by omega, uV, hp]
  rfl
theorem Left.done {α : Type} {p : List UInt8 → Option (α × List UInt8)} {n : Nat} {l r : List UInt8} {done : List α} (h : Left p n n l r done) : repP p n l = some (done, r) := by
  rw [h.2, Nat.sub_self]
  simp [repP]
theorem JC {α : Type} (z x : α) (done : List α) (n k : Nat) (hd : done.length = k) (hk : k < n) : (done ++ List.replicate (n - k) z).set k x = (done ++ [x]) ++ List.replicate (n - (k + 1)) z := by
  rw [List.set_append_right _ _ (by omega), hd, Nat.sub_self, show n - k = (n - (k + 1)) + 1 by omega, List.replicate_succ, List.set_cons_zero, List.append_assoc]
  rfl
theorem lC {s least n : Nat} {l r : List UInt8} (h : many s least l = some (n, r)) (h1 : 1 ≤ least) : r.length + s = l.length ∧ n * least ≤ r.length := by
  unfold many at h
  obtain ⟨⟨m, r'⟩, hn, hl⟩ := Option.bind_eq_some_iff.1 h
  simp only at hl
  split at hl
  · cases hl
  injection hl with hl
  injection hl with e1 e2
  subst e1; subst e2
  rename_i hle
  obtain ⟨h3, _, rfl⟩ := lQ hn
  refine ⟨by rw [List.length_drop]; omega, (Nat.le_div_iff_mul_le (by omega)).1 (by omega)⟩
theorem pY (n : Nat) (h : n < 9223372036854775808) : wrap64 (n : Int) = (n : Int) := by unfold wrap64; omega
theorem qP {t e : TypeId} {z : Value} {size bytes : Nat} (ht : Tryd.prog.underlying t = some (.slice e)) (hinfo : (Tryd.prog.info? e).map (fun i => (i.zero, i.size, i.bytes)) = some (some z, size, bytes)) (hb : bytes ≤ 100000) (n : Nat) (hn : (n : Int) ≤ 100000) (W : World) :
    (Instr.makeSlice t (.int .i64 (n : Int)) (.int .i64 (n : Int))).run Tryd.prog W = .ok (.slice (some ⟨W.heap.size, 0, none⟩) n n) (W.alloc (.cells (madeCells z.cells (n * size)) e)) := by
  obtain ⟨i, hi, he⟩ := Option.map_eq_some_iff.1 hinfo
  simp only [Prod.mk.injEq] at he
  obtain ⟨h1, h2, h3⟩ := he
  have hbn : (i.bytes : Int) * (n : Int) ≤ 281474976710656 := by
    have h4 : (i.bytes : Int) ≤ 100000 := by omega
    have h5 : (i.bytes : Int) * (n : Int) ≤ 100000 * 100000 := Int.mul_le_mul h4 hn (by omega) (by omega)
    omega
  have := run_make W t e i z ht hi h1 .i64 .i64 (n : Int) (n : Int) (by omega) (by omega) hbn (by omega)
  rw [h2, Int.toNat_natCast] at this
  exact this
theorem mD {s : Nat} {l r : List UInt8} {x : Int} (h : intP s l = some (x, r)) : s ≤ l.length ∧ x = (numB (l.take s) : Int) ∧ r = l.drop s := by
  unfold intP at h
  obtain ⟨⟨m, r'⟩, hn, hl⟩ := Option.bind_eq_some_iff.1 h
  injection hl with hl
  injection hl with e1 e2
  subst e1; subst e2
  obtain ⟨h1, rfl, rfl⟩ := lQ hn
  exact ⟨h1, rfl, rfl⟩
theorem kU {s : Nat} {l : List UInt8} (h : intP s l = none) : l.length < s := by
  unfold intP at h
  cases hn : number s l with
  | none => exact qF hn
  | some x => rw [hn] at h; cases h
theorem lX (l : List UInt8) (s : Nat) (hs : s ≤ 4) : (numB (l.take s) : Int) < 4294967296 := by
  have h1 := rJ (l.take s)
  have h2 : (l.take s).length ≤ 4 := by rw [List.length_take]; omega
  have h3 : 256 ^ (l.take s).length ≤ 256 ^ 4 := Nat.pow_le_pow_right (by decide) h2
  have h4 : 256 ^ 4 = 4294967296 := by decide
  omega
set_option maxRecDepth 20000 in
set_option maxHeartbeats 2000000 in
theorem pO (g : Nat) (l : List UInt8) (w0 w : World) (h : Rd w0 w g l) (hb : Below w0.heap.size w0 w) (hg : w0.heap.size ≤ g) (hm : (l.length : Int) ≤ 100000) :
    Calls Tryd.prog 120 #[.pointer (some ⟨g, 0, none⟩)] w (PP (mF l) (fun xs v w' => RI w' w.heap.size v xs) w0 w g) := by
  have HR := iC.mk h
  have HB := iC.mk hb
  have hlt := h.lt
  clear h hb
  cases hmy : many 1 1 l with
  | none =>
    have hn : mF l = none := by unfold mF; rw [hmy]; rfl
    have hcall := o7 1 1 1 1 rfl rfl (by omega) (by omega) g l w0 w HR.out HB.out hg hmy
    have HN := iC.mk hn
    clear hmy hn
    go_enter Tryd.func120, Tryd.ntmps120
    go_wp2_with (go_at_call 130; refine hcall.mono ?_; rintro e w1 ⟨rfl, hG⟩)
    exact ⟨rfl, hG, .inr ⟨HN.out, rfl⟩⟩
  | some x =>
    obtain ⟨n, r0⟩ := x
    have hn : mF l = repP (intP 1) n r0 := by unfold mF; rw [hmy]; rfl
    have hcall := vT 1 1 1 1 rfl rfl (by omega) (by omega) g l r0 n w0 w HR.out HB.out hg hmy
    have HN := iC.mk hn
    obtain ⟨hl1, hl2⟩ := lC hmy (by omega)
    have hn1 : (n : Int) ≤ 100000 := by omega
    have hr1 : (r0.length : Int) ≤ 100000 := by omega
    have hmk := qP (t := 23) (e := 3) Tryd.underlying23 info3 (by omega) n hn1
    clear hmy hn hl1 hl2
    go_enter Tryd.func120, Tryd.ntmps120
    go_wp2_with (go_at_call 130; refine hcall.mono ?_; rintro e w1 ⟨rfl, hR, hG, hle⟩; clear hle; have HR1 := iC.mk hR; have HG1 := iC.mk hG; clear hR hG)
    have HO := iC.mk (QZ (W := w1) (n := n) (base := w.heap.size) (by omega) HG1.out.size)
    have HG := iC.mk (iR HG1.out (grown_below (iF (Below.refl _ _) (.cells (madeCells #[.int .i64 0] n) 3))))
    have HR2 := iC.mk (Rd.grown HR1.out (grown_below (row := none) (iF (Below.refl _ _) (.cells (madeCells #[.int .i64 0] n) 3))) (by simp))
    clear HR1 HG1 hcall hmk
    obtain ⟨ad, had⟩ : ∃ ad : Addr, ad = ⟨w1.heap.size, 0, none⟩ := ⟨_, rfl⟩
    rw [← had] at HO ⊢
    obtain ⟨W2, hW⟩ : ∃ W2, W2 = w1.alloc (.cells (madeCells #[.int .i64 0] n) 3) := ⟨_, rfl⟩
    rw [← hW] at HO HG HR2 ⊢
    clear hW had
    go_loopw [10] (fun i wr => ∃ (k : Nat) (done : List Int) (r : List UInt8), k ≤ n ∧ i = .int .i64 k ∧ iC (Left (intP 1) n k r0 r done) ∧ iC (Rd w0 wr g r) ∧ iC (RI wr w.heap.size (.slice (some ad) n n) (done ++ List.replicate (n - k) 0)) ∧ iC (w.grownBy wr (some g))) (fun i _ => n - (intOf i).toNat)
    case atStart => exact ⟨0, [], r0, Nat.zero_le _, rfl, ⟨Left.start _ _ _⟩, HR2, HO, HG⟩
    case round =>
      obtain ⟨k, done, r, hk, rfl, HL, HRd, HOk, HGk⟩ := hrel
      clear HR2 HO HG
      by_cases hkn : k < n
      · cases hp : intP 1 r with
        | none =>
          have hcall := jT 1 1 rfl g r w0 wr HRd.out (kU hp)
          have HF := iC.mk (Left.fail HL.out hkn hp)
          clear hp
          go_wp2_with (go_at_call 119; refine hcall.mono ?_; rintro e w2 ⟨rfl, hG⟩)
          exact ⟨rfl, iR HGk.out hG, .inr ⟨by rw [HN.out]; exact HF.out, rfl⟩⟩
        | some x =>
          obtain ⟨x, r'⟩ := x
          obtain ⟨hs1, hx, hr'⟩ := mD hp
          have HN1 := iC.mk (Left.next HL.out hkn hp)
          have hcall := lY 1 1 rfl (by omega) g r w0 wr HRd.out (below_grown HB.out HGk.out hg (Nat.le_refl _)) hs1
          have hsm := lX r 1 (by omega)
          rw [← hr'] at hcall
          obtain ⟨m, hm1⟩ : ∃ m, m = numB (r.take 1) := ⟨_, rfl⟩
          rw [← hm1] at hcall hsm hx
          subst hx
          clear hp hr' hm1 hs1
          go_wp2_with (go_at_call 119; refine hcall.mono ?_; rintro e w2 ⟨rfl, hR, hG⟩; obtain ⟨⟨old, ho⟩, hf, hbs, hset, hgr⟩ := TJ (jM HOk.out hG hlt) k hkn (m : Int); have HS := iC.mk hset; have HGR := iC.mk (jU (iR HGk.out hG) hgr hbs); have HRR := iC.mk (Rd.grown hR hgr (by (intro e; injection e with e; omega))); clear hset hgr hbs hR hG)
          go_roundw
          case rel => exact ⟨k + 1, done ++ [(m : Int)], r', by omega, by go_num, HN1, HRR, ⟨by rw [← JC _ _ _ _ _ HL.out.1 hkn]; exact HS.out⟩, HGR⟩
          case measure => simp [intOf]; omega
      · obtain rfl : k = n := by omega
        go_wp2
        go_ret
        have hd := HOk.out
        rw [Nat.sub_self, List.replicate_zero, List.append_nil] at hd
        exact ⟨HGk.out, .inl ⟨done, r, _, by rw [HN.out]; exact Left.done HL.out, rfl, hd, HRd.out⟩⟩
def RW (e : Nat) (w : World) (base : Nat) (v : Value) (rows : List (List Value)) : Prop := (Kd.raw 2).R e w base (fun _ => True) v rows
theorem yF {e : Nat} {w : World} {base : Nat} {ad : Addr} {n c : Nat} {rows : List (List Value)} (h : RW e w base (.slice (some ad) n c) rows) (k : Nat) (hk : k < n) :
    ∃ x y, rows.getD k [] = [x, y] ∧ w.cell? (ad.add (k * 2)) = some x ∧ w.cell? ⟨(ad.add (k * 2)).block, (ad.add (k * 2)).off + 1, none⟩ = some y ∧ w.frozen? (ad.add (k * 2)) = false ∧ w.frozen? ⟨(ad.add (k * 2)).block, (ad.add (k * 2)).off + 1, none⟩ = false ∧ base ≤ ad.block ∧ ad.block < w.heap.size ∧
    (∀ u : Value, u.oneCell' = true → RW e (w.setCell (ad.add (k * 2)) u) base (.slice (some ad) n c) (rows.set k [u, y]) ∧ w.grownBy (w.setCell (ad.add (k * 2)) u) (some ad.block)) ∧
    (∀ u : Value, u.oneCell' = true → RW e (w.setCell ⟨(ad.add (k * 2)).block, (ad.add (k * 2)).off + 1, none⟩ u) base (.slice (some ad) n c) (rows.set k [x, u]) ∧ w.grownBy (w.setCell ⟨(ad.add (k * 2)).block, (ad.add (k * 2)).off + 1, none⟩ u) (some ad.block)) := by
  obtain ⟨g, rfl⟩ := NI h
  have hb := Kd.R_base h g (by simp [Value.ownBlock])
  have hlt := Kd.R_lt h g (by simp [Value.ownBlock])
  obtain ⟨cc, hcl, hM, hcc, hf⟩ := Kd.R_elem h [] (k : Int) (by omega) (by omega)
  rw [Int.toNat_natCast] at hM hcc hf
  have hM' : cc = rows.getD k [] ∧ cc.length = 2 ∧ ∀ u ∈ cc, u.oneCell' = true := hM
  obtain ⟨hc1, hc2, hc3⟩ := hM'
  obtain ⟨x, y, rfl⟩ : ∃ x y, cc = [x, y] := by
    match cc, hc2 with
    | [x, y], _ => exact ⟨x, y, rfl⟩
  have ha : (⟨g, 0, none⟩ : Addr).add (k * 2) = ⟨g, k * 2, none⟩ := by rw [add_plain]
  rw [ha]
  have z0 : w.cell? ⟨g, k * 2, none⟩ = some x := hcc 0 x rfl
  have z1 : w.cell? ⟨g, k * 2 + 1, none⟩ = some y := hcc 1 y rfl
  have f0 : w.frozen? ⟨g, k * 2, none⟩ = false := hf 0
  have f1 : w.frozen? ⟨g, k * 2 + 1, none⟩ = false := hf 1
  have ox := hc3 x (by simp)
  have oy := hc3 y (by simp)
  have hcc' : ∀ j u, [x, y][j]? = some u → w.cell? ⟨g, (k : Int).toNat * (Kd.raw 2).sz + j, none⟩ = some u := by rw [Int.toNat_natCast]; exact hcc
  refine ⟨x, y, hc1.symm, z0, z1, f0, f1, hb, hlt, fun u hu => ?_, fun u hu => ?_⟩
  · have := Kd.R_seg (d := Kd.raw 2) (okp := fun _ => False) (c := [x, y]) (seg := [u]) (j := 0) (x' := [u, y]) h (k : Int) (by omega) (by omega) rfl hcc' (show _ ≤ 2 by simp) ⟨rfl, rfl, by
      intro z hz
      rcases List.mem_cons.1 hz with rfl | hz
      · exact hu
      · rcases List.mem_cons.1 hz with rfl | hz
        · exact oy
        · cases hz⟩ (fun _ hk => hk.elim)
    rw [Int.toNat_natCast] at this
    exact this
  · have := Kd.R_seg (d := Kd.raw 2) (okp := fun _ => False) (c := [x, y]) (seg := [u]) (j := 1) (x' := [x, u]) h (k : Int) (by omega) (by omega) rfl hcc' (show _ ≤ 2 by simp) ⟨rfl, rfl, by
      intro z hz
      rcases List.mem_cons.1 hz with rfl | hz
      · exact ox
      · rcases List.mem_cons.1 hz with rfl | hz
        · exact hu
        · cases hz⟩ (fun _ hk => hk.elim)
    rw [Int.toNat_natCast] at this
    exact this
theorem NU {e : Nat} {W : World} {n base : Nat} {x y : Value} (ox : x.oneCell' = true) (oy : y.oneCell' = true) (hn : n ≤ 9223372036854775807) (hb : base ≤ W.heap.size) : RW e (W.alloc (.cells (madeCells #[x, y] (n * 2)) e)) base (.slice (some ⟨W.heap.size, 0, none⟩) n n) (List.replicate n [x, y]) := by
  refine ⟨fun _ _ => trivial, (madeCells #[x, y] (n * 2)).toList, ?_, ?_, ?_⟩
  · rw [List.length_replicate]
    exact World.ownsRow_lit W (madeCells #[x, y] (n * 2)) n hb (by unfold maxLen; omega) (by simp [madeCells, Kd.raw])
  · simp [madeCells, Kd.raw]
  · intro j p hj
    obtain ⟨hjl, hjp⟩ := List.getElem?_eq_some_iff.1 hj
    rw [List.length_replicate] at hjl
    rw [List.getElem_replicate] at hjp
    subst hjp
    have hcell : (((madeCells #[x, y] (n * 2)).toList.drop (j * (Kd.raw 2).sz)).take (Kd.raw 2).sz) = [x, y] := by
      apply List.ext_getElem
      · simp [madeCells, Kd.raw]; omega
      · intro i h1 h2
        have hi : i < 2 := by simpa using h2
        rw [List.getElem_take, List.getElem_drop]
        have hi' : i = 0 ∨ i = 1 := by omega
        rcases hi' with rfl | rfl <;> simp [madeCells, Kd.raw, Nat.add_mod]
    rw [hcell]
    refine ⟨rfl, rfl, fun u hu => ?_⟩
    rcases List.mem_cons.1 hu with rfl | hu
    · exact ox
    · rcases List.mem_cons.1 hu with rfl | hu
      · exact oy
      · cases hu
theorem yL {α : Type} {d : Kd α} (hd : d.sz = 2) {e : Nat} {w : World} {base : Nat} {v : Value} {rows : List (List Value)} {xs : List α} {ok : Nat → Prop} (h : RW e w base v rows) (hl : xs.length = rows.length) (hok : ∀ k, v.ownBlock = some k → ok k) (hM : ∀ (j : Nat) (p : α) (c : List Value), xs[j]? = some p → rows[j]? = some c → d.M w base (fun k => ok k ∧ some k ≠ v.ownBlock) p c) : d.R e w base ok v xs := by
  obtain ⟨_, inner, ho, hr⟩ := h
  refine ⟨hok, inner, ?_, ?_, ?_⟩
  · rw [hl, hd]; exact ho
  · rw [hl, hd]; exact hr.1
  · intro j p hj
    have hjl : j < rows.length := by rw [← hl]; exact (List.getElem?_eq_some_iff.1 hj).1
    have hc := hr.2 j rows[j] (List.getElem?_eq_getElem hjl)
    rw [hd]
    have e : ((inner.drop (j * (Kd.raw 2).sz)).take (Kd.raw 2).sz) = rows[j] := hc.1
    show d.M w base _ p ((inner.drop (j * 2)).take 2)
    rw [show ((inner.drop (j * 2)).take 2) = rows[j] from e]
    exact hM j p _ hj (List.getElem?_eq_getElem hjl)
end Go.Proofs.YtgfkgppomaapiaaDoor.K
end

section
namespace Go.Proofs.YtgfkgppomaapiaaDoor.K
open RowKit YtgfkgppomaapiaaDoorW.PrintWords YtgfkgppomaapiaaDoorW.PrintLast YtgfkgppomaapiaaDoorW.PrintMore My
def RB (w0 w : World) (g : Nat) (l : List UInt8) (b : Bool) : Prop := ∃ A c, w.heap[g]? = some (.cells #[.slice A l.length c, .bool b] 123 (0, 0)) ∧ l.length ≤ c ∧ kb.C w0 A l.length l
theorem RB.grown {w0 w w' : World} {g : Nat} {l : List UInt8} {b : Bool} (h : RB w0 w g l b) {row : Option Nat} (hg : w.grownBy w' row) (hne : some g ≠ row) : RB w0 w' g l b := by
  obtain ⟨A, c, hb, hc, hC⟩ := h
  exact ⟨A, c, (hg.block g (iZ hb) hne).trans hb, hc, hC⟩
theorem RB.lt {w0 w : World} {g : Nat} {l : List UInt8} {b : Bool} (h : RB w0 w g l b) : g < w.heap.size := by
  obtain ⟨A, c, hb, _⟩ := h
  exact iZ hb
set_option maxHeartbeats 2000000 in
theorem vG (s : Nat) (S : Int) (hS : S = s) (hs8 : s ≤ 8) (g : Nat) (l : List UInt8) (w0 w : World) (h : RB w0 w g l false) (hb : Below w0.heap.size w0 w) (hl : s ≤ l.length) :
    Calls Tryd.prog 98 #[.pointer (some ⟨g, 0, none⟩), .int .i64 S] w fun e w' => e = .returned (.int .u64 (numB (l.take s) : Int)) ∧ RB w0 w' g (l.drop s) false ∧ w.grownBy w' (some g) := by
  subst hS
  obtain ⟨A, c, hblk, hc, hC⟩ := h
  have HBL := iC.mk hblk
  have HB := iC.mk hb
  have hm := kQ hC
  have HC := iC.mk hC
  have z0 : w.cell? ⟨g, 0, none⟩ = some (.slice A l.length c) := (iE hblk 0).trans rfl
  have z1 : w.cell? ⟨g, 1, none⟩ = some (.bool false) := (iE hblk 1).trans rfl
  have f0 : w.frozen? ⟨g, 0, none⟩ = false := iD hblk 0
  obtain ⟨A2, hcut2, hC2⟩ := U7 hC hc s (s : Int) rfl hl
  have HC2 := iC.mk hC2
  have hnot : ¬ (l.length : Int) < (s : Int) := by omega
  clear hblk hb hC hC2
  go_enter Tryd.func98, Tryd.ntmps98
  go_wp2
  go_loop [5, 6] (fun n i => ∃ k : Nat, k ≤ s ∧ i = .int .i64 k ∧ n = .int .u64 (numB (l.take k) : Int)) (fun _ i => s - (intOf i).toNat)
  case atStart => exact ⟨0, Nat.zero_le _, rfl, rfl⟩
  case round =>
    obtain ⟨k, hk, rfl, rfl⟩ := hrel
    by_cases hlt : k < s
    · obtain ⟨ad, rfl, hx⟩ := C_at (Kd.C_below HC.out HB.out) k (by omega)
      have hsn := iC.mk (pR l k (by omega))
      have hn := uG l k (by omega)
      generalize l.getD k 0 = cb at hx hsn
      obtain ⟨n, hnn⟩ : ∃ n, n = numB (l.take k) := ⟨_, rfl⟩
      rw [← hnn] at hn hsn ⊢
      clear hnn
      have hnI : (n : Int) < 72057594037927936 := by omega
      clear hn
      have hcb := cb.toNat_lt
      go_wp2
      go_round
      case rel => exact ⟨k + 1, by omega, by go_num, by rw [hsn.out]; go_num⟩
      case measure => simp [intOf]; omega
    · obtain rfl : k = s := by omega
      go_wp2
      go_ret
      refine ⟨rfl, ⟨A2, c - k, ?_, by rw [List.length_drop]; omega, ?_⟩, kF _ _ _ _⟩
      · rw [List.length_drop]
        exact (Lib.heap_setCell_same HBL.out _).trans rfl
      · rw [List.length_drop]
        exact HC2.out
set_option maxHeartbeats 1000000 in
theorem NM (s : Nat) (S : Int) (hS : S = s) (g : Nat) (l : List UInt8) (b : Bool) (w0 w : World) (h : RB w0 w g l b) (hl : b = true ∨ l.length < s) :
    Calls Tryd.prog 98 #[.pointer (some ⟨g, 0, none⟩), .int .i64 S] w fun e w' => e = .returned (.int .u64 0) ∧ RB w0 w' g l true ∧ w.grownBy w' (some g) := by
  subst hS
  obtain ⟨A, c, hblk, hc, hC⟩ := h
  have HBL := iC.mk hblk
  have hm := kQ hC
  have HC := iC.mk hC
  have z0 : w.cell? ⟨g, 0, none⟩ = some (.slice A l.length c) := (iE hblk 0).trans rfl
  have z1 : w.cell? ⟨g, 1, none⟩ = some (.bool b) := (iE hblk 1).trans rfl
  have f1 : w.frozen? ⟨g, 1, none⟩ = false := iD hblk 1
  clear hblk hC
  have fin : RB w0 (w.setCell ⟨g, 1, none⟩ (.bool true)) g l true := ⟨A, c, (Lib.heap_setCell_same HBL.out _).trans rfl, hc, HC.out⟩
  have FIN := iC.mk fin
  clear fin
  cases b with
  | true =>
    clear hl
    go_enter Tryd.func98, Tryd.ntmps98
    go_wp2
    go_ret
    exact ⟨rfl, FIN.out, kF _ _ _ _⟩
  | false =>
    have hyes : (l.length : Int) < (s : Int) := by
      rcases hl with h | h
      · cases h
      · omega
    clear hl
    go_enter Tryd.func98, Tryd.ntmps98
    go_wp2
    go_ret
    exact ⟨rfl, FIN.out, kF _ _ _ _⟩
set_option maxHeartbeats 2000000 in
theorem uO (s least : Nat) (S T : Int) (hS : S = s) (hT : T = least) (hs8 : s ≤ 8) (h1 : 1 ≤ least) (g : Nat) (l l' : List UInt8) (n : Nat) (w0 w : World) (h : RB w0 w g l false) (hb : Below w0.heap.size w0 w) (hl : many s least l = some (n, l')) :
    Calls Tryd.prog 101 #[.pointer (some ⟨g, 0, none⟩), .int .i64 S, .int .i64 T] w fun e w' => e = .returned (.int .i64 (n : Int)) ∧ RB w0 w' g l' false ∧ w.grownBy w' (some g) := by
  subst hT
  unfold many at hl
  obtain ⟨⟨m, r⟩, hn, hl⟩ := Option.bind_eq_some_iff.1 hl
  simp only at hl
  split at hl
  · cases hl
  injection hl with hl
  injection hl with e1 e2
  subst e1; subst e2
  rename_i hle
  obtain ⟨hsl, hm, hr⟩ := lQ hn
  have hmd : ¬ ((r.length : Int) / (least : Int)) < (m : Int) := by
    rw [← Int.natCast_ediv]
    omega
  have hmr : m ≤ r.length := Nat.le_trans (Nat.le_of_not_lt hle) (Nat.div_le_self _ _)
  have hcall := vG s S hS hs8 g l w0 w h hb hsl
  rw [← hm, ← hr] at hcall
  clear hn hm hr hle h hb hsl hS
  have hl1 : (1 : Int) ≤ (least : Int) := by omega
  go_enter Tryd.func101, Tryd.ntmps101
  go_wp2_with fail
  go_at_call 98
  refine hcall.mono ?_
  rintro e w1 ⟨rfl, ⟨A1, c1, hblk, hc1, hC1⟩, hG⟩
  have HBL := iC.mk hblk
  have HC1 := iC.mk hC1
  have hm1 := kQ hC1
  have z0 : w1.cell? ⟨g, 0, none⟩ = some (.slice A1 r.length c1) := (iE hblk 0).trans rfl
  clear hblk hC1 hcall
  obtain ⟨hq1, hq2⟩ := qU r.length least hm1
  have hmI : (m : Int) ≤ 9223372036854775807 := by omega
  go_wp2
  go_ret
  exact ⟨rfl, ⟨A1, c1, HBL.out, hc1, HC1.out⟩, hG⟩
set_option maxHeartbeats 2000000 in
theorem oW (s least : Nat) (S T : Int) (hS : S = s) (hT : T = least) (hs8 : s ≤ 8) (h1 : 1 ≤ least) (g : Nat) (l : List UInt8) (b : Bool) (w0 w : World) (h : RB w0 w g l b) (hb : Below w0.heap.size w0 w) (hl : b = true ∨ many s least l = none) :
    Calls Tryd.prog 101 #[.pointer (some ⟨g, 0, none⟩), .int .i64 S, .int .i64 T] w fun e w' => e = .returned (.int .i64 0) ∧ (∃ l', l'.length ≤ l.length ∧ RB w0 w' g l' true) ∧ w.grownBy w' (some g) := by
  subst hT
  by_cases hbad : b = true ∨ l.length < s
  · have hcall := NM s S hS g l b w0 w h hbad
    clear hl h hb hbad hS
    have hl1 : (1 : Int) ≤ (least : Int) := by omega
    go_enter Tryd.func101, Tryd.ntmps101
    go_wp2_with fail
    go_at_call 98
    refine hcall.mono ?_
    rintro e w1 ⟨rfl, ⟨A1, c1, hblk, hc1, hC1⟩, hG⟩
    have HBL := iC.mk hblk
    have HC1 := iC.mk hC1
    have hm1 := kQ hC1
    have z0 : w1.cell? ⟨g, 0, none⟩ = some (.slice A1 l.length c1) := (iE hblk 0).trans rfl
    clear hblk hC1 hcall
    obtain ⟨hq1, hq2⟩ := qU l.length least hm1
    have hmd : ¬ ((l.length : Int) / (least : Int)) < 0 := Int.not_lt.2 (Int.ediv_nonneg (by omega) (by omega))
    go_wp2
    go_ret
    exact ⟨rfl, ⟨l, Nat.le_refl _, A1, c1, HBL.out, hc1, HC1.out⟩, hG⟩
  · have hb0 : b = false := by
      cases b with
      | false => rfl
      | true => exact absurd (.inl rfl) hbad
    subst hb0
    have hsl : s ≤ l.length := by omega
    have hl : many s least l = none := by
      rcases hl with h | h
      · cases h
      · exact h
    have hn : number s l = some (numB (l.take s), l.drop s) := by unfold number; rw [if_neg (by omega)]
    unfold many at hl
    rw [hn] at hl
    simp only [Option.bind_some] at hl
    split at hl
    · rename_i hgt
      obtain ⟨m, hm⟩ : ∃ m, numB (l.take s) = m := ⟨_, rfl⟩
      obtain ⟨r, hr⟩ : ∃ r, l.drop s = r := ⟨_, rfl⟩
      have hrl : r.length ≤ l.length := by rw [← hr, List.length_drop]; omega
      have hcall := vG s S hS hs8 g l w0 w h hb hsl
      rw [hm, hr] at hgt hcall
      have hmd : ((r.length : Int) / (least : Int)) < (m : Int) := by
        rw [← Int.natCast_ediv]
        omega
      clear hn hm hr hgt h hb hsl hS hl hbad
      have hl1 : (1 : Int) ≤ (least : Int) := by omega
      go_enter Tryd.func101, Tryd.ntmps101
      go_wp2_with fail
      go_at_call 98
      refine hcall.mono ?_
      rintro e w1 ⟨rfl, ⟨A1, c1, hblk, hc1, hC1⟩, hG⟩
      have HBL := iC.mk hblk
      have HC1 := iC.mk hC1
      have hm1 := kQ hC1
      have z0 : w1.cell? ⟨g, 0, none⟩ = some (.slice A1 r.length c1) := (iE hblk 0).trans rfl
      have z1 : w1.cell? ⟨g, 1, none⟩ = some (.bool false) := (iE hblk 1).trans rfl
      have f1 : w1.frozen? ⟨g, 1, none⟩ = false := iD hblk 1
      clear hblk hC1 hcall
      obtain ⟨hq1, hq2⟩ := qU r.length least hm1
      go_wp2
      go_ret
      exact ⟨rfl, ⟨r, hrl, A1, c1, (Lib.heap_setCell_same HBL.out _).trans rfl, hc1, HC1.out⟩, iR hG (kF _ _ _ _)⟩
    · cases hl
end Go.Proofs.YtgfkgppomaapiaaDoor.K
end

section
namespace Go.Proofs.YtgfkgppomaapiaaDoor.K
open RowKit YtgfkgppomaapiaaDoorW.PrintWords YtgfkgppomaapiaaDoorW.PrintLast YtgfkgppomaapiaaDoorW.PrintMore My
def RP {α : Type} (res : Option (α × List UInt8)) (val : α → Value → World → Prop) (w0 w : World) (g len : Nat) (e : Ending) (w' : World) : Prop :=
  w.grownBy w' (some g) ∧ ∃ x v, e = .returned v ∧ val x v w' ∧ ((∃ l', res = some (x, l') ∧ l'.length ≤ len ∧ RB w0 w' g l' false) ∨ (res = none ∧ ∃ l', l'.length ≤ len ∧ RB w0 w' g l' true))
theorem oM {w w1 w2 : World} {g : Nat} {row : Option Nat} (h : w.grownBy w1 (some g)) (k : w1.grownBy w2 row) (hb : ∀ b, row = some b → w.heap.size ≤ b) : w.grownBy w2 (some g) :=
  ⟨k.os.trans h.os, k.tape.trans h.tape, k.output.trans h.output, Nat.le_trans h.size k.size, fun i hi hne => (k.block i (Nat.lt_of_lt_of_le hi h.size) (fun e => by have := hb i e.symm; omega)).trans (h.block i hi hne)⟩
theorem UA (w : World) (x : Int) : (Kd.int .i64).C (w.alloc (.cells #[.int .i64 x] 3)) (some ⟨w.heap.size, 0, none⟩) 1 [x] := by
  have h := World.ownsRow_lit (base := w.heap.size) (e := 3) (size := 1) w #[.int .i64 x] 1 (Nat.le_refl _) (by unfold maxLen; omega) rfl
  have h2 : Kd.R (Kd.int .i64) 3 (w.alloc (.cells #[.int .i64 x] 3)) w.heap.size (fun _ => True) (.slice (some ⟨w.heap.size, 0, none⟩) 1 1) [x] := Kd.R_of_own (enc := Value.int .i64) (h1 := fun _ => rfl) h (fun _ _ => trivial)
  obtain ⟨_, _, C⟩ := Kd.R_reads' h2
  exact C
theorem zK : (Tryd.prog.info? 3).map (fun i => (i.zero, i.size, i.bytes)) = some (some (.int .i64 0), (Kd.int .i64).sz, 8) := by kernel_rfl
theorem QR {l r0 : List UInt8} {n : Nat} (h : many 1 1 l = some (n, r0)) : mF l = repP (intP 1) n r0 := by unfold mF; rw [h]; rfl
set_option maxRecDepth 20000 in
set_option maxHeartbeats 4000000 in
theorem xR (g : Nat) (l : List UInt8) (b : Bool) (w0 w : World) (h : RB w0 w g l b) (hb : Below w0.heap.size w0 w) (hg : w0.heap.size ≤ g) (hm : (l.length : Int) ≤ 100000) :
    Calls Tryd.prog 99 #[.pointer (some ⟨g, 0, none⟩)] w (RP (if b = true then none else mF l) (fun xs v w' => RI w' w.heap.size v xs) w0 w g l.length) := by
  have hlt := h.lt
  by_cases hbad : b = true ∨ many 1 1 l = none
  · have hres : (if b = true then none else mF l) = none := by
      rcases hbad with h | h
      · rw [if_pos h]
      · split
        · rfl
        · unfold mF; rw [h]; rfl
    rw [hres]
    have hcall := oW 1 1 1 1 rfl rfl (by omega) (by omega) g l b w0 w h hb hbad
    clear hres hbad h hb
    go_enter Tryd.func99, Tryd.ntmps99
    go_wp2_with fail
    go_at_call 101
    refine hcall.mono ?_
    rintro e w1 ⟨rfl, ⟨r, hr, hR⟩, hG⟩
    have HR := iC.mk hR
    have HG := iC.mk hG
    clear hcall hR hG
    go_wp2
    go_loopw [3, 5] (fun v i wr => v = .slice none 0 0 ∧ i = .int .i64 0 ∧ wr = w1) (fun _ _ _ => 0)
    case atStart => exact ⟨rfl, rfl, rfl⟩
    case round =>
      obtain ⟨rfl, rfl, rfl⟩ := hrel
      go_wp2
      go_ret
      exact ⟨HG.out, [], _, rfl, Kd.R_nil _ _ _ _ _, .inr ⟨rfl, r, hr, HR.out⟩⟩
  · have hb0 : b = false := by
      cases b with
      | false => rfl
      | true => exact absurd (.inl rfl) hbad
    subst hb0
    rw [if_neg (by decide)]
    cases hmy : many 1 1 l with
    | none => exact absurd (.inr hmy) hbad
    | some x =>
      obtain ⟨n, r0⟩ := x
      have hn := QR hmy
      have hcall := uO 1 1 1 1 rfl rfl (by omega) (by omega) g l r0 n w0 w h hb hmy
      obtain ⟨hl1, hl2⟩ := lC hmy (by omega)
      have HN := iC.mk hn
      have HB := iC.mk hb
      have hn1 : n ≤ r0.length := by omega
      have hr1 : (r0.length : Int) ≤ 100000 := by omega
      have HRL := iC.mk (show r0.length ≤ l.length by omega)
      have HN1 := iC.mk hn1
      have hnI : (n : Int) ≤ 100000 := by omega
      clear hmy hn hl1 hl2 hbad h hb hn1 hm
      go_enter Tryd.func99, Tryd.ntmps99
      go_wp2_with fail
      go_at_call 101
      refine hcall.mono ?_
      rintro e w1 ⟨rfl, hR, hG⟩
      have HR := iC.mk hR
      have HG := iC.mk hG
      clear hcall hR hG
      go_wp2
      go_loopw [3, 5] (fun v i wr => ∃ (k : Nat) (done : List Int) (r : List UInt8), k ≤ n ∧ i = .int .i64 k ∧ iC (n - k ≤ r.length ∧ r.length ≤ r0.length) ∧ iC (Left (intP 1) n k r0 r done) ∧ iC (RB w0 wr g r false) ∧ iC (RI wr w.heap.size v done) ∧ iC (w.grownBy wr (some g))) (fun _ i _ => n - (intOf i).toNat)
      case atStart => exact ⟨0, [], r0, Nat.zero_le _, rfl, ⟨by have := HN1.out; omega, Nat.le_refl _⟩, ⟨Left.start _ _ _⟩, HR, ⟨Kd.R_nil _ _ _ _ _⟩, HG⟩
      case round =>
        obtain ⟨k, done, r, hk, rfl, HLN, HL, HRd, HOk, HGk⟩ := hrel
        clear HR HG
        obtain ⟨Av, cv, rfl⟩ := Kd.R_slice HOk.out
        have HDL := iC.mk HL.out.1
        by_cases hkn : k < n
        · have hr0 : 1 ≤ r.length := by have := HLN.out.1; omega
          cases hp : intP 1 r with
          | none => exact absurd (kU hp) (by omega)
          | some x =>
            obtain ⟨x, r'⟩ := x
            obtain ⟨hs1, hx, hr'⟩ := mD hp
            have HN2 := iC.mk (Left.next HL.out hkn hp)
            have hcall := vG 1 1 rfl (by omega) g r w0 wr HRd.out (below_grown HB.out HGk.out hg (Nat.le_refl _)) hs1
            have hsm := lX r 1 (by omega)
            have HLN2 := iC.mk (show n - (k + 1) ≤ r'.length ∧ r'.length ≤ r0.length from by have h1 := HLN.out; rw [hr', List.length_drop]; omega)
            rw [← hr'] at hcall
            obtain ⟨m, hm1⟩ : ∃ m, m = numB (r.take 1) := ⟨_, rfl⟩
            rw [← hm1] at hcall hsm hx
            subst hx
            clear hp hr' hm1 hs1
            rw [HDL.out] at HOk ⊢
            go_wp2_with fail
            go_at_call 98
            refine hcall.mono ?_
            rintro e w2 ⟨rfl, hR, hG⟩
            have HO2 := iC.mk (jM HOk.out hG hlt)
            have HR2 := iC.mk hR
            have HG2 := iC.mk (iR HGk.out hG)
            clear hR hG hcall HOk HGk HRd
            go_wp2_with (at_builtin; go_loud (refine Kd.R_append_rows (Kd.int .i64) (w0 := w2.alloc (.cells #[.int .i64 (m : Int)] 3)) w.heap.size rfl (.tmp 13) (.tmp 17) 23 3 (.int .i64 0) 8 rfl Tryd.underlying23 zK rfl (by decide) (by omega) (.slice Av k cv) done [(m : Int)] _ _ _ (fun _ => True) (fun _ => False) rfl rfl (Kd.R_below HO2.out (iF (Below.refl _ _) _)) (UA w2 (m : Int)) (fun _ _ h => h) (fun _ h => h.elim) (fun _ _ => trivial) (Below.refl _ _) ?aS ?aL ?_; (case aS => exact Nat.le_trans HG2.out.size (iF (Below.refl w2.heap.size w2) _).size); (case aL => (rw [HDL.out]; omega)); intro v3 w3 HO3 HB3 hg3 hat; have HR3 := iC.mk (RB.grown (RB.grown HR2.out (grown_below (row := none) (iF (Below.refl _ _) (.cells #[.int .i64 (m : Int)] 3))) (by simp)) hg3 (by intro e; have := Kd.R_base HO2.out g e.symm; omega)); have HG3 := iC.mk (oM (iR HG2.out (grown_below (iF (Below.refl _ _) (.cells #[.int .i64 (m : Int)] 3)))) hg3 (fun b e => Kd.R_base HO2.out b e)); have HO3' := iC.mk HO3; clear HO3 HB3 hg3 hat))
            go_roundw
            case rel => exact ⟨k + 1, done ++ [(m : Int)], r', by omega, by go_num, HLN2, HN2, HR3, HO3', HG3⟩
            case measure => simp [intOf]; omega
        · obtain rfl : k = n := by omega
          go_wp2
          go_ret
          exact ⟨HGk.out, done, _, rfl, HOk.out, .inl ⟨r, by rw [HN.out]; exact Left.done HL.out, by have h1 := HLN.out; have h2 := HRL.out; omega, HRd.out⟩⟩
end Go.Proofs.YtgfkgppomaapiaaDoor.K
end

section
namespace Go.Proofs.YtgfkgppomaapiaaDoor.K
open RowKit YtgfkgppomaapiaaDoorW.PrintWords YtgfkgppomaapiaaDoorW.PrintLast YtgfkgppomaapiaaDoorW.PrintMore My
def encS (s : jV) : List Value := [.int .i64 s.f0, .int .i64 s.f1]
theorem IG {α β : Type} (f : α → β) (z u : β) (done : List α) (n k : Nat) (x : α) (hu : u = f x) (hd : done.length = k) (hk : k < n) : (done.map f ++ List.replicate (n - k) z).set k u = (done ++ [x]).map f ++ List.replicate (n - (k + 1)) z := by
  subst hu
  rw [JC z (f x) (done.map f) n k (by rw [List.length_map]; exact hd) hk, List.map_append]
  rfl
theorem JQ {r : List UInt8} (h : intP 4 r = none) : qC r = none := by unfold qC; rw [h]; rfl
theorem J3 {r r1 : List UInt8} {x : Int} (h : intP 4 r = some (x, r1)) (h1 : intP 1 r1 = none) : qC r = none := by unfold qC; rw [h]; simp only [Option.bind_some]; rw [h1]; rfl
theorem LV {r r1 r2 : List UInt8} {x y : Int} (h : intP 4 r = some (x, r1)) (h1 : intP 1 r1 = some (y, r2)) : qC r = some (⟨x, y⟩, r2) := by unfold qC; rw [h]; simp only [Option.bind_some]; rw [h1]; rfl
set_option maxRecDepth 20000 in
set_option maxHeartbeats 4000000 in
theorem xK (g : Nat) (l : List UInt8) (w0 w : World) (h : Rd w0 w g l) (hb : Below w0.heap.size w0 w) (hg : w0.heap.size ≤ g) (hm : (l.length : Int) ≤ 100000) :
    Calls Tryd.prog 122 #[.pointer (some ⟨g, 0, none⟩)] w (PP (oK l) (fun xs v w' => Kd.R k98 98 w' w.heap.size (fun _ => True) v xs) w0 w g) := by
  have HR := iC.mk h
  have HB := iC.mk hb
  have hlt := h.lt
  clear h hb
  cases hmy : many 1 5 l with
  | none =>
    have hn : oK l = none := by unfold oK; rw [hmy]; rfl
    have hcall := o7 1 5 1 5 rfl rfl (by omega) (by omega) g l w0 w HR.out HB.out hg hmy
    have HN := iC.mk hn
    clear hmy hn
    go_enter Tryd.func122, Tryd.ntmps122
    go_wp2_with (go_at_call 130; refine hcall.mono ?_; rintro e w1 ⟨rfl, hG⟩)
    exact ⟨rfl, hG, .inr ⟨HN.out, rfl⟩⟩
  | some x =>
    obtain ⟨n, r0⟩ := x
    have hn : oK l = repP qC n r0 := by unfold oK; rw [hmy]; rfl
    have hcall := vT 1 5 1 5 rfl rfl (by omega) (by omega) g l r0 n w0 w HR.out HB.out hg hmy
    have HN := iC.mk hn
    obtain ⟨hl1, hl2⟩ := lC hmy (by omega)
    have hn1 : (n : Int) ≤ 100000 := by omega
    have hmk := qP (t := 25) (e := 98) Tryd.underlying25 U6 (by omega) n hn1
    clear hmy hn hl1 hl2
    go_enter Tryd.func122, Tryd.ntmps122
    go_wp2_with (go_at_call 130; refine hcall.mono ?_; rintro e w1 ⟨rfl, hR, hG, hle⟩; clear hle; have HR1 := iC.mk hR; have HG1 := iC.mk hG; clear hR hG)
    have HO := iC.mk (NU (e := 98) (W := w1) (n := n) (base := w.heap.size) (x := .int .i64 0) (y := .int .i64 0) rfl rfl (by omega) HG1.out.size)
    have HG := iC.mk (iR HG1.out (grown_below (iF (Below.refl _ _) (.cells (madeCells #[.int .i64 0, .int .i64 0] (n * 2)) 98))))
    have HR2 := iC.mk (Rd.grown HR1.out (grown_below (row := none) (iF (Below.refl _ _) (.cells (madeCells #[.int .i64 0, .int .i64 0] (n * 2)) 98))) (by simp))
    clear HR1 HG1 hcall hmk
    obtain ⟨ad, had⟩ : ∃ ad : Addr, ad = ⟨w1.heap.size, 0, none⟩ := ⟨_, rfl⟩
    rw [← had] at HO ⊢
    obtain ⟨W2, hW⟩ : ∃ W2, W2 = w1.alloc (.cells (madeCells #[.int .i64 0, .int .i64 0] (n * 2)) 98) := ⟨_, rfl⟩
    rw [← hW] at HO HG HR2
    first | rw [← hW] | (rw [show w1.alloc (.cells (madeCells (Value.agg #[.int .i64 0, .int .i64 0]).cells (n * 2)) 98) = W2 from hW.symm])
    clear hW had
    go_loopw [10] (fun i wr => ∃ (k : Nat) (done : List jV) (r : List UInt8), k ≤ n ∧ i = .int .i64 k ∧ iC (Left qC n k r0 r done) ∧ iC (Rd w0 wr g r) ∧ iC (RW 98 wr w.heap.size (.slice (some ad) n n) (done.map encS ++ List.replicate (n - k) [.int .i64 0, .int .i64 0])) ∧ iC (w.grownBy wr (some g))) (fun i _ => n - (intOf i).toNat)
    case atStart => exact ⟨0, [], r0, Nat.zero_le _, rfl, ⟨Left.start _ _ _⟩, HR2, HO, HG⟩
    case round =>
      obtain ⟨k, done, r, hk, rfl, HL, HRd, HOk, HGk⟩ := hrel
      clear HR2 HO HG
      by_cases hkn : k < n
      · cases hp : intP 4 r with
        | none =>
          have hcall := jT 4 4 rfl g r w0 wr HRd.out (kU hp)
          have HF := iC.mk (Left.fail HL.out hkn (JQ hp))
          clear hp
          go_wp2_with (go_at_call 119; refine hcall.mono ?_; rintro e w2 ⟨rfl, hG⟩)
          exact ⟨rfl, iR HGk.out hG, .inr ⟨by rw [HN.out]; exact HF.out, rfl⟩⟩
        | some x =>
          obtain ⟨x, r1⟩ := x
          obtain ⟨hs1, hx, hr1⟩ := mD hp
          have hcall := lY 4 4 rfl (by omega) g r w0 wr HRd.out (below_grown HB.out HGk.out hg (Nat.le_refl _)) hs1
          have hsm := lX r 4 (by omega)
          rw [← hr1] at hcall
          obtain ⟨m, hm1⟩ : ∃ m, m = numB (r.take 4) := ⟨_, rfl⟩
          rw [← hm1] at hcall hsm hx
          subst hx
          clear hr1 hm1 hs1
          cases hp1 : intP 1 r1 with
          | none =>
            have HF := iC.mk (Left.fail HL.out hkn (J3 hp hp1))
            have HP1 := iC.mk hp1
            clear hp hp1
            go_wp2_with fail
            refine hcall.mono ?_
            rintro e w2 ⟨rfl, hR, hG⟩
            obtain ⟨x0, y0, hrow, z0, z1, f0, f1, hbs, hbl, hset0, _⟩ := yF (jM HOk.out hG hlt) k hkn
            obtain ⟨hs0, hg0⟩ := hset0 (.int .i64 (m : Int)) rfl
            have HGR := iC.mk (jU (iR HGk.out hG) hg0 hbs)
            have HRR := iC.mk (Rd.grown hR hg0 (by (intro e; injection e with e; omega)))
            clear hset0 hs0 hg0 hR hG hrow z1 f1 hcall
            go_wp2_with fail
            refine (jT 1 1 rfl g r1 w0 _ HRR.out (kU HP1.out)).mono ?_
            rintro e w3 ⟨rfl, hG⟩
            go_wp2
            exact ⟨rfl, iR HGR.out hG, .inr ⟨by rw [HN.out]; exact HF.out, rfl⟩⟩
          | some y =>
            obtain ⟨y, r2⟩ := y
            have HN1 := iC.mk (Left.next HL.out hkn (LV hp hp1))
            obtain ⟨hs2, hy, hr2⟩ := mD hp1
            have hsm2 := lX r1 1 (by omega)
            obtain ⟨m2, hm2⟩ : ∃ m2, m2 = numB (r1.take 1) := ⟨_, rfl⟩
            rw [← hm2] at hsm2 hy
            subst hy
            clear hp hp1
            go_wp2_with fail
            refine hcall.mono ?_
            rintro e w2 ⟨rfl, hR, hG⟩
            obtain ⟨x0, y0, hrow, z0, z1, f0, f1, hbs, hbl, hset0, _⟩ := yF (jM HOk.out hG hlt) k hkn
            obtain ⟨hs0, hg0⟩ := hset0 (.int .i64 (m : Int)) rfl
            have HGR := iC.mk (jU (iR HGk.out hG) hg0 hbs)
            have HRR := iC.mk (Rd.grown hR hg0 (by (intro e; injection e with e; omega)))
            have HS0 := iC.mk hs0
            clear hset0 hs0 hg0 hR hG hrow z1 f1 hcall
            go_wp2_with fail
            have hcall := lY 1 1 rfl (by omega) g r1 w0 _ HRR.out (below_grown HB.out HGR.out hg (Nat.le_refl _)) hs2
            rw [← hr2, ← hm2] at hcall
            refine hcall.mono ?_
            rintro e w3 ⟨rfl, hR, hG⟩
            obtain ⟨x1, y1, hrow, z0', z1, f0', f1, hbs1, hbl1, _, hset1⟩ := yF (jM HS0.out hG hlt) k hkn
            obtain ⟨hs1, hg1⟩ := hset1 (.int .i64 (m2 : Int)) rfl
            have hkl : k < (done.map encS ++ List.replicate (n - k) [Value.int .i64 0, .int .i64 0]).length := by rw [List.length_append, List.length_map, List.length_replicate, HL.out.1]; omega
            rw [List.getD_eq_getElem?_getD, List.getElem?_set_self hkl] at hrow
            have hx1 : x1 = .int .i64 (m : Int) := by injection hrow with hx _; exact hx.symm
            subst hx1
            rw [List.set_set] at hs1
            have HS1 := iC.mk hs1
            have HGR2 := iC.mk (jU (iR HGR.out hG) hg1 hbs1)
            have HRR2 := iC.mk (Rd.grown hR hg1 (by (intro e; injection e with e; omega)))
            clear hset1 hs1 hg1 hR hG hrow hcall z0 f0 z0' f0' hr2 hm2 hs2 hkl HS0 HGR HRR
            go_wp2
            go_roundw
            case rel => exact ⟨k + 1, done ++ [⟨(m : Int), (m2 : Int)⟩], r2, by omega, by go_num, HN1, HRR2, ⟨by rw [← IG encS _ [.int .i64 (m : Int), .int .i64 (m2 : Int)] done n k ⟨(m : Int), (m2 : Int)⟩ rfl HL.out.1 hkn]; exact HS1.out⟩, HGR2⟩
            case measure => simp [intOf]; omega
      · obtain rfl : k = n := by omega
        go_wp2
        go_ret
        have hd := HOk.out
        rw [Nat.sub_self, List.replicate_zero, List.append_nil] at hd
        refine ⟨HGk.out, .inl ⟨done, r, _, by rw [HN.out]; exact Left.done HL.out, rfl, ?_, HRd.out⟩⟩
        refine yL rfl hd (by rw [List.length_map]) (fun _ _ => trivial) (fun j p c hj hc => ?_)
        rw [List.getElem?_map, hj] at hc
        injection hc with hc
        subst hc
        exact PG _ _ _ _
end Go.Proofs.YtgfkgppomaapiaaDoor.K
end

section
namespace Go.Proofs.YtgfkgppomaapiaaDoor.My
open Go Go.RowKit Go.Proofs.YtgfkgppomaapiaaDoorW.PrintWords Go.Proofs.YtgfkgppomaapiaaDoorW.PrintLast
def entries (D : List Tmp) (vs : Nat → Value) : List (Nat × Tmp × Value) := (List.range D.length).map fun i => (i, D.getD i 0, vs i)
theorem lG {D : List Tmp} {vs : Nat → Value} {i : Nat} (h : i < D.length) : (entries D vs)[i]? = some (i, D.getD i 0, vs i) := by
  unfold entries
  rw [List.getElem?_map, List.getElem?_range h]
  rfl
theorem kY (D : List Tmp) (vs : Nat → Value) : (entries D vs).length = D.length := by simp [entries]
theorem J7 {D : List Tmp} {vs : Nat → Value} {i : Nat} (v : Value) : (entries D vs).set i (i, D.getD i 0, v) = entries D (fun j => if j = i then v else vs j) := by
  apply List.ext_getElem?
  intro j
  by_cases hj : j < D.length
  · by_cases hij : i = j
    · subst hij
      rw [List.getElem?_set_self (by rw [kY]; exact hj), lG hj, if_pos rfl]
    · rw [List.getElem?_set_ne hij, lG hj, lG hj, if_neg (Ne.symm hij)]
  · rw [List.getElem?_eq_none (by simp [kY]; omega), List.getElem?_eq_none (by rw [kY]; omega)]
def zG (D : List Tmp) : Bool := decide D.Nodup
theorem MZ {D : List Tmp} (h : D.Nodup) {i j : Nat} (hi : i < D.length) (hj : j < D.length) (e : D.getD i 0 = D.getD j 0) : i = j := by
  rw [List.getD_eq_getElem?_getD, List.getD_eq_getElem?_getD, List.getElem?_eq_getElem hi, List.getElem?_eq_getElem hj] at e
  simp only [Option.getD_some] at e
  have hp := List.pairwise_iff_getElem.1 h
  rcases Nat.lt_trichotomy i j with hij | hij | hij
  · exact absurd e (hp i j hi hj hij)
  · exact hij
  · exact absurd e.symm (hp j i hj hi hij)
theorem uC {b b' : Nat → Bool} : ∀ {L : List (Nat × Tmp × Value)} {a : Act}, (∀ e ∈ L, b e.1 = b' e.1) → kD a b L = kD a b' L
  | [], _, _ => rfl
  | e :: L, a, h => by
    unfold kD
    rw [h e List.mem_cons_self]
    exact uC (fun x hx => h x (List.mem_cons_of_mem _ hx))
theorem qM {D : List Tmp} {vs : Nat → Value} {i : Nat} (hD : zG D = true) (hi : i < D.length) :
    (((entries D vs).take i ++ (entries D vs).drop (i + 1)).all fun e => !(e.1 == i) && !(e.2.1 == D.getD i 0)) = true := by
  have hnd : D.Nodup := of_decide_eq_true hD
  rw [List.all_eq_true]
  intro e he
  obtain ⟨j, hj, hne⟩ : ∃ j, (entries D vs)[j]? = some e ∧ j ≠ i := by
    rcases List.mem_append.1 he with h | h
    · obtain ⟨j, hj⟩ := List.getElem?_of_mem h
      rw [List.getElem?_take] at hj
      split at hj
      · exact ⟨j, hj, by omega⟩
      · cases hj
    · obtain ⟨j, hj⟩ := List.getElem?_of_mem h
      rw [List.getElem?_drop] at hj
      exact ⟨_, hj, by omega⟩
  have hjl : j < D.length := by have := (List.getElem?_eq_some_iff.1 hj).1; rwa [kY] at this
  rw [lG hjl] at hj
  simp only [Option.some.injEq] at hj
  subst hj
  simp only [Bool.and_eq_true, Bool.not_eq_true', beq_eq_false_iff_ne]
  exact ⟨hne, fun e => hne (MZ hnd hjl hi e)⟩
section
variable {P : Program} {ops : Array Oper} {Q : Exit → Act → World → Prop} {T : Bool × List (List Nat × List Nat)} {B : List Nat}
end
end Go.Proofs.YtgfkgppomaapiaaDoor.My
end

section
namespace Go.Proofs.YtgfkgppomaapiaaDoor.My
open Go Go.RowKit Go.Proofs.YtgfkgppomaapiaaDoorW.PrintWords Go.Proofs.YtgfkgppomaapiaaDoorW.PrintLast
section
variable {P : Program} {ops : Array Oper} {Q : Exit → Act → World → Prop} {T : Bool × List (List Nat × List Nat)} {B : List Nat}
def Met (B : List Nat) (D : List Tmp) (V : Nat → Value) (a0 a : Act) (i : Nat) : Prop :=
  (∀ s, D.contains s = false → a.tmps[s]? = a0.tmps[s]?) ∧ (∀ j, (B.getD i 0).testBit j = true → a.tmps[D.getD j 0]? = some (V j)) ∧ a.defers = a0.defers
def qJ (P : Program) (ops : Array Oper) (Q : Exit → Act → World → Prop) (B : List Nat) (D : List Tmp) (V : Nat → Value) (a0 : Act) (Ok : World → Prop) (i : Nat) : Prop :=
  ∀ (a : Act) (w : World), Ok w → Met B D V a0 a i → ∃ oi, ops[i]? = some oi ∧ oi.dst = some (D.getD i 0) ∧ ∀ K : Act → World → Prop, K (a.put (some (D.getD i 0)) (V i)) w →
    if Region.wanted oi (yielded ops a.tmps) = true then Oper.wp P oi a w K Q else K (a.put (some (D.getD i 0)) undef) w
theorem xY {D : List Tmp} {V : Nat → Value} {a0 : Act} {Ok : World → Prop} : ∀ i ∈ ([] : List Nat), qJ P ops Q B D V a0 Ok i := fun _ h => by cases h
theorem jQ {D : List Tmp} {V : Nat → Value} {a0 : Act} {Ok : World → Prop} {i : Nat} {rs : List Nat} (h : qJ P ops Q B D V a0 Ok i) (hs : ∀ j ∈ rs, qJ P ops Q B D V a0 Ok j) : ∀ j ∈ i :: rs, qJ P ops Q B D V a0 Ok j := fun j hj => by
  rcases List.mem_cons.1 hj with rfl | hj
  · exact h
  · exact hs j hj
theorem RG {oi : Oper} {N : Option Tmp} {a : Act} {w : World} {K : Act → World → Prop} {f : FuncId} {fn : Func} {ops0 : Array Operand} {ts : Array TypeId} (hf : P.funcs[f]? = some fn) (hname : (fn.name == "runtime.NumGoroutine") = false) (hb : fn.body.isSome = true) (args : Array Value)
    (hw : Region.wanted oi (yielded ops a.tmps) = true) (hop : oi.op = .call { callee := .value (.func f), args := ops0, argTypes := ts }) (hargs : ops0.map a.eval = args)
    (h : Calls P f args w fun e w' => ∃ chain, e = .panicked chain ∧ Q (.panic chain) a w') : if Region.wanted oi (yielded ops a.tmps) = true then Oper.wp P oi a w K Q else K (a.put N undef) w := by
  have he := IE hf hname hb args w
  have hrun : (execOp a.eval oi).run P w = .ok (.enter f args) w := by
    unfold execOp
    simp [hop, resolve, Deferred.ofValue, invoke, Act.eval, hargs, he]
  rw [if_pos hw]
  unfold Oper.wp
  rw [hrun, Oper.upon_enter]
  refine h.mono fun e w'' hh => ?_
  obtain ⟨chain, rfl, hk⟩ := hh
  exact hk
theorem xU {id : Nat} {a0 : Act} {w0 : World} (D : List Tmp) (V : Nat → Value) (c : Nat) (Aft Fin : World → Prop) (L : List Nat) (Lp : List Nat) (T : Bool × List (List Nat × List Nat)) (B : List Nat) (hm : P.follows .mixedOrders = true)
    (hT : rtab .any ops = T) (hL : List.range ops.size = L) (hw : mW T.2 B = true) (hk : oN T.2 L = true) (hD : zG D = true) (hDn : D.length + 1 = ops.size)
    (hin : (D.all fun t => Nat.ble (t + 1) a0.tmps.size) = true) (hBn : (L.all fun i => Nat.ble (B.getD i 0) (2 ^ D.length - 1)) = true)
    (hLp : ((List.range D.length).all fun i => i == c || Lp.contains i) = true)
    (hlast : ((List.range D.length).all fun j => (B.getD D.length 0).testBit j) = true)
    (hpure : ∀ i ∈ Lp, qJ P ops Q B D V a0 (fun w => w = w0.drew ∨ Aft w) i)
    (hcall : ∀ (a : Act), Met B D V a0 a c → ∃ oi, ops[c]? = some oi ∧ oi.dst = some (D.getD c 0) ∧ ∀ K : Act → World → Prop, (∀ w', Aft w' → K (a.put (some (D.getD c 0)) (V c)) w') →
      if Region.wanted oi (yielded ops a.tmps) = true then Oper.wp P oi a w0.drew K Q else K (a.put (some (D.getD c 0)) undef) w0.drew)
    (hc : Nat.ble (c + 1) D.length = true)
    (hstore : ∀ (a : Act) (w : World), Aft w → Met B D V a0 a D.length → ∃ om, ops[D.length]? = some om ∧ om.dst = none ∧ ∀ K : Act → World → Prop, (∀ w', Fin w' → K a w') →
      if Region.wanted om (yielded ops a.tmps) = true then Oper.wp P om a w K Q else K (a.put none undef) w)
    (hend : ∀ w, Fin w → Q .normal (kD a0 (fun _ => true) (entries D V)) w) :
    (Code.region id ops true).wp P Q a0 w0 := by
  subst hL
  have hTl : T.2.length = ops.size := by rw [← hT, nM]
  have hcl : c < D.length := by have := Nat.le_of_ble_eq_true hc; omega
  refine uM (n := ops.size) (S := fun _ => True) (ds := []) (Array.replicate ops.size false) hm rfl rfl trivial (fun _ => ?_)
  have hall : ∀ {b : Nat → Bool}, (∀ j, j < D.length → b j = true) → kD a0 b (entries D V) = kD a0 (fun _ => true) (entries D V) := by
    intro b hb
    refine uC (fun e he => ?_)
    obtain ⟨j, hj⟩ := List.getElem?_of_mem he
    have hjl : j < D.length := by have := (List.getElem?_eq_some_iff.1 hj).1; rwa [kY] at this
    rw [lG hjl] at hj
    simp only [Option.some.injEq] at hj
    subst hj
    exact hb j hjl
  have hoffs : ∀ (b : Nat → Bool) s, D.contains s = false → (kD a0 b (entries D V)).tmps[s]? = a0.tmps[s]? := by
    intro b s hsD
    refine pI ?_
    rw [List.all_eq_true]
    intro e he
    obtain ⟨j, hj⟩ := List.getElem?_of_mem he
    have hjl : j < D.length := by have := (List.getElem?_eq_some_iff.1 hj).1; rwa [kY] at this
    rw [lG hjl] at hj
    simp only [Option.some.injEq] at hj
    subst hj
    simp only [Bool.not_eq_true', beq_eq_false_iff_ne]
    intro h
    have : D.contains s = true := by
      rw [List.contains_iff_mem, ← h, List.getD_eq_getElem?_getD, List.getElem?_eq_getElem hjl]
      exact List.getElem_mem hjl
    rw [this] at hsD
    cases hsD
  have hons : ∀ (b : Nat → Bool) j, j < D.length → b j = true → (kD a0 b (entries D V)).tmps[D.getD j 0]? = some (V j) := by
    intro b j hjD hbj
    refine zA (e := (j, D.getD j 0, V j)) j (lG hjD) ?_ hbj ?_
    · have := qM (vs := V) hD hjD
      rw [List.all_append, Bool.and_eq_true] at this
      have h2 := this.2
      rw [List.all_eq_true] at h2 ⊢
      intro x hx
      have := h2 x hx
      rw [Bool.and_eq_true] at this
      exact this.2
    · exact List.all_eq_true.1 hin (D.getD j 0) (by rw [List.getD_eq_getElem?_getD, List.getElem?_eq_getElem hjD]; exact List.getElem_mem hjD)
  refine inv_ (T := T) (B := B) (List.range ops.size) (fun b a w => a = kD a0 b (entries D V) ∧ (b D.length = true → (∀ j, j < D.length → b j = true) ∧ Fin w) ∧ (b D.length = false → if b c = true then Aft w else w = w0.drew)) hT hw hk ?_ ?_ ?_ ?_
  · simp only [Bool.and_eq_true, beq_iff_eq, List.length_range, and_true]
    rw [hTl]
    apply List.ext_getElem
    · simp [lof]
    · intro i h1 h2
      simp [lof] at h1 ⊢
      exact h1
  · refine ⟨?_, (fun h => by cases h), fun _ => by simp⟩
    have : ∀ (L : List (Nat × Tmp × Value)) (a : Act), kD a (fun _ => false) L = a := by
      intro L
      induction L with
      | nil => intro a; rfl
      | cons e L ih => intro a; unfold kD; rw [if_neg (by simp)]; exact ih a
    rw [this]
  · intro i hi
    have hil : i < ops.size := List.mem_range.1 hi
    intro b a w ⟨ha, hfin, hbef⟩ hb hon hoff
    have hdepb : ∀ j, (B.getD i 0).testBit j = true → j < D.length ∧ b j = true := by
      intro j hj
      have hjn : j < D.length := by
        rcases Nat.lt_or_ge j D.length with h | h
        · exact h
        · have h1 := List.all_eq_true.1 hBn i hi
          have h2 : B.getD i 0 ≤ 2 ^ D.length - 1 := Nat.le_of_ble_eq_true h1
          have h3 : B.getD i 0 < 2 ^ j := Nat.lt_of_le_of_lt h2 (Nat.lt_of_lt_of_le (Nat.sub_lt (Nat.two_pow_pos _) Nat.one_pos) (Nat.pow_le_pow_right (by decide) h))
          rw [Nat.testBit_lt_two_pow h3] at hj
          cases hj
      exact ⟨hjn, hon j (by rw [Bool.and_eq_true]; exact ⟨by simpa using (by omega : j < ops.size), hj⟩)⟩
    have hmet : Met B D V a0 a i := by
      subst ha
      exact ⟨hoffs b, fun j hj => hons b j (hdepb j hj).1 (hdepb j hj).2, (pV b _ _).2⟩
    by_cases hiD : i < D.length
    · have hne : b D.length = false := by
        cases hbD : b D.length with
        | false => rfl
        | true => rw [(hfin hbD).1 i hiD] at hb; cases hb
      have hbw := hbef hne
      have hup : up b i D.length = false := by rw [vC (by omega)]; exact hne
      have hnext : a.put (some (D.getD i 0)) (V i) = kD a0 (up b i) (entries D V) := by
        rw [ha]
        exact MV i hb (lG hiD) (by rw [J7]; congr 1; funext j; split <;> simp_all) (qM hD hiD)
      by_cases hic : i = c
      · subst hic
        rw [if_neg (by rw [hb]; decide)] at hbw
        subst hbw
        obtain ⟨oi, ho, hdst, hstep⟩ := hcall a hmet
        refine ⟨oi, ho, fun K hK => ?_⟩
        rw [hdst]
        refine hstep K fun w' hw' => hK.out _ _ ⟨hnext, (fun h => by rw [hup] at h; cases h), fun _ => ?_⟩
        rw [if_pos (rC b i)]
        exact hw'
      · have hLi : i ∈ Lp := by
          have := List.all_eq_true.1 hLp i (List.mem_range.2 hiD)
          rw [Bool.or_eq_true, beq_iff_eq] at this
          rcases this with h | h
          · exact absurd h hic
          · exact List.contains_iff_mem.1 h
        obtain ⟨oi, ho, hdst, hstep⟩ := hpure i hLi a w (by
          split at hbw
          · exact .inr hbw
          · exact .inl hbw) hmet
        refine ⟨oi, ho, fun K hK => ?_⟩
        rw [hdst]
        refine hstep K (hK.out _ _ ⟨hnext, (fun h => by rw [hup] at h; cases h), fun _ => ?_⟩)
        rw [vC (Ne.symm hic)]
        exact hbw
    · have hiD' : i = D.length := by omega
      subst hiD'
      have hbs : ∀ j, j < D.length → b j = true := fun j hj => (hdepb j (List.all_eq_true.1 hlast j (List.mem_range.2 hj))).2
      have hbw := hbef hb
      rw [if_pos (hbs c hcl)] at hbw
      have ha' : a = kD a0 (fun _ => true) (entries D V) := by rw [ha, hall hbs]
      subst ha'
      obtain ⟨om, ho, hdst, hstep⟩ := hstore _ w hbw hmet
      refine ⟨om, ho, fun K hK => ?_⟩
      rw [hdst]
      refine hstep K fun w' hw' => ?_
      refine hK.out _ _ ⟨?_, fun _ => ⟨fun j hj => by rw [vC (by omega)]; exact hbs j hj, hw'⟩, fun h => by rw [rC] at h; cases h⟩
      rw [hall (b := up b D.length) (fun j hj => by rw [vC (by omega)]; exact hbs j hj)]
  · intro b a w hallb ⟨ha, hfin, _⟩
    have hb : ∀ j, j < D.length + 1 → b j = true := fun j hj => hallb j (by simpa using (by omega : j < ops.size))
    have hf := hfin (hb _ (Nat.lt_succ_self _))
    rw [ha, hall hf.1]
    exact hend w hf.2
end
end Go.Proofs.YtgfkgppomaapiaaDoor.My
end

section
namespace Go.Proofs.YtgfkgppomaapiaaDoor.K
open RowKit YtgfkgppomaapiaaDoorW.PrintWords YtgfkgppomaapiaaDoorW.PrintLast YtgfkgppomaapiaaDoorW.PrintMore My
theorem OT : (Tryd.prog.info? 139).map (fun i => (i.zero, i.size, i.bytes)) = some (some (.agg #[(.slice none 0 0), (.int .i64 0)]), 2, 32) := by kernel_rfl
def lH {α : Type} (d : Kd α) (w : World) (base : Nat) (P : Nat → Prop) (done : List α) (rows : List (List Value)) : Prop :=
  ∀ (j : Nat) (p : α) (c : List Value), done[j]? = some p → rows[j]? = some c → d.M w base P p c
theorem lH.move {α : Type} {d : Kd α} {w w' : World} {base : Nat} {P : Nat → Prop} {done : List α} {rows : List (List Value)} (h : lH d w base P done rows) (hm : ∀ b, P b → base ≤ b → b < w.heap.size → w'.heap[b]? = w.heap[b]?) : lH d w' base P done rows := fun j p c hj hc =>
  d.M_mono (fun _ hk => hk.1) (d.M_move (fun k hk => hm k hk.1 hk.2.1 hk.2.2.1) (d.M_bound (h j p c hj hc)))
theorem lH.bound {α : Type} {d : Kd α} {w : World} {base : Nat} {P : Nat → Prop} {done : List α} {rows : List (List Value)} (h : lH d w base P done rows) : lH d w base (fun b => P b ∧ b < w.heap.size) done rows := fun j p c hj hc =>
  d.M_mono (fun _ hk => ⟨hk.1, hk.2.2.1⟩) (d.M_bound (h j p c hj hc))
theorem lH.mono {α : Type} {d : Kd α} {w : World} {base : Nat} {P P' : Nat → Prop} {done : List α} {rows : List (List Value)} (h : lH d w base P done rows) (hp : ∀ b, P b → P' b) : lH d w base P' done rows := fun j p c hj hc => d.M_mono hp (h j p c hj hc)
theorem lH.set {α : Type} {d : Kd α} {w : World} {base : Nat} {P : Nat → Prop} {done : List α} {rows : List (List Value)} {k : Nat} (h : lH d w base P done rows) (hk : done.length ≤ k) (u : List Value) : lH d w base P done (rows.set k u) := fun j p c hj hc => by
  have hjl := (List.getElem?_eq_some_iff.1 hj).1
  rw [List.getElem?_set_ne (by omega)] at hc
  exact h j p c hj hc
theorem lH.snoc {α : Type} {d : Kd α} {w : World} {base : Nat} {P : Nat → Prop} {done : List α} {rows : List (List Value)} {x : α} {c : List Value} (h : lH d w base P done rows) (hc : rows[done.length]? = some c) (hx : d.M w base P x c) : lH d w base P (done ++ [x]) rows := fun j p c' hj hc' => by
  rcases Nat.lt_or_ge j done.length with hj' | hj'
  · rw [List.getElem?_append_left hj'] at hj
    exact h j p c' hj hc'
  · have hjl := (List.getElem?_eq_some_iff.1 hj).1
    rw [List.length_append, List.length_singleton] at hjl
    obtain rfl : j = done.length := by omega
    rw [List.getElem?_append_right (Nat.le_refl _), Nat.sub_self] at hj
    obtain rfl : x = p := by simpa using hj
    rw [hc] at hc'
    injection hc' with hc'
    subst hc'
    exact hx
theorem lH.grown {α : Type} {d : Kd α} {w w' : World} {base g : Nat} {P : Nat → Prop} {done : List α} {rows : List (List Value)} (h : lH d w base P done rows) (hg : w.grownBy w' (some g)) (hlt : g < base) : lH d w' base P done rows :=
  h.move (fun b _ hb hl => hg.block b hl (fun e => by injection e with e; omega))
theorem lH.other {α : Type} {d : Kd α} {w w' : World} {base g : Nat} {P : Nat → Prop} {done : List α} {rows : List (List Value)} (h : lH d w base P done rows) (hg : w.grownBy w' (some g)) (hp : ∀ b, P b → b ≠ g) : lH d w' base P done rows :=
  h.move (fun b hb _ hl => hg.block b hl (fun e => hp b hb (by injection e)))
theorem IC {α : Type} {d : Kd α} {e : Nat} {w w1 : World} {base : Nat} {ok : Nat → Prop} {v : Value} {xs : List α} {g : Nat} (h : d.R e w base ok v xs) (hE : d.E = []) (hg : w.grownBy w1 (some g)) (hne : some g ≠ v.ownBlock) : d.R e w1 base ok v xs := by
  have h1 := Kd.R_tight hE h
  have h2 := Kd.R_grown h1 hg (fun k hk e => hne (by rw [← hk]; exact e.symm))
  exact ⟨fun k hk => h.1 k hk, (by
    obtain ⟨_, inner, ho, hr⟩ := h2
    refine ⟨inner, ho, hr.imp_ (fun p c hp => ?_)⟩
    refine d.M_mono (fun k hk => ?_) (d.M_bound hp)
    obtain ⟨_, _, _, q, hq, _⟩ := hk
    rw [hE] at hq
    cases hq)⟩
theorem IQ {r : List UInt8} (h : many 1 4 r = none) : oD r = none := by unfold oD; rw [h]; rfl
theorem II {r r1 : List UInt8} {n : Nat} (h : many 1 4 r = some (n, r1)) (h1 : repP (intP 4) n r1 = none) : oD r = none := by unfold oD; rw [h]; simp only [Option.bind_some]; rw [h1]; rfl
theorem J9 {r r1 r2 : List UInt8} {n : Nat} {ks : List Int} (h : many 1 4 r = some (n, r1)) (h1 : repP (intP 4) n r1 = some (ks, r2)) (h2 : number 8 r2 = none) : oD r = none := by unfold oD; rw [h]; simp only [Option.bind_some]; rw [h1]; simp only [Option.bind_some]; rw [h2]; rfl
theorem xO {r r1 r2 r3 : List UInt8} {n m : Nat} {ks : List Int} (h : many 1 4 r = some (n, r1)) (h1 : repP (intP 4) n r1 = some (ks, r2)) (h2 : number 8 r2 = some (m, r3)) : oD r = some (⟨ks, s64 m⟩, r3) := by unfold oD; rw [h]; simp only [Option.bind_some]; rw [h1]; simp only [Option.bind_some]; rw [h2]; rfl
theorem L8 (m : Nat) (h : m < 18446744073709551616) : wrap64 (m : Int) = s64 m := by
  unfold wrap64 s64
  split <;> omega
theorem TM (l : List UInt8) : numB (l.take 8) < 18446744073709551616 := by
  have h1 := rJ (l.take 8)
  have h2 : (l.take 8).length ≤ 8 := by rw [List.length_take]; omega
  have h3 : 256 ^ (l.take 8).length ≤ 256 ^ 8 := Nat.pow_le_pow_right (by decide) h2
  have h4 : 256 ^ 8 = 18446744073709551616 := by decide
  omega
def Short {α : Type} (p : List UInt8 → Option (α × List UInt8)) : Prop := ∀ l x r, p l = some (x, r) → r.length ≤ l.length
theorem nN (s : Nat) : Short (intP s) := fun l x r h => by
  obtain ⟨_, _, rfl⟩ := mD h
  rw [List.length_drop]; omega
theorem oC {α : Type} {p : List UInt8 → Option (α × List UInt8)} (hp : Short p) : ∀ n, Short (repP p n)
  | 0, l, x, r, h => by
    simp only [repP, Option.some.injEq, Prod.mk.injEq] at h
    rw [h.2]; exact Nat.le_refl _
  | n + 1, l, x, r, h => by
    rw [uV] at h
    obtain ⟨⟨y, r1⟩, h1, h⟩ := Option.bind_eq_some_iff.1 h
    obtain ⟨⟨ys, r2⟩, h2, h⟩ := Option.bind_eq_some_iff.1 h
    simp only [Option.some.injEq, Prod.mk.injEq] at h
    have a := hp _ _ _ h1
    have b := oC hp n _ _ _ h2
    rw [← h.2]
    exact Nat.le_trans b a
theorem MH : Short oD := fun l x r h => by
  unfold oD at h
  obtain ⟨⟨n, r1⟩, h1, h⟩ := Option.bind_eq_some_iff.1 h
  obtain ⟨⟨ks, r2⟩, h2, h⟩ := Option.bind_eq_some_iff.1 h
  obtain ⟨⟨m, r3⟩, h3, h⟩ := Option.bind_eq_some_iff.1 h
  simp only [Option.some.injEq, Prod.mk.injEq] at h
  have a := (lC h1 (by omega)).1
  have b := oC (nN 4) n _ _ _ h2
  obtain ⟨_, _, hd⟩ := lQ h3
  simp only at a b hd
  have c : r3.length ≤ r2.length := by rw [hd, List.length_drop]; omega
  rw [← h.2]
  omega
theorem yS (rows : List (List Value)) (k : Nat) (u : List Value) (h : k < rows.length) : (rows.set k u).getD k [] = u := by
  rw [List.getD_eq_getElem?_getD, List.getElem?_set_self h]; rfl
set_option maxRecDepth 20000 in
set_option maxHeartbeats 8000000 in
theorem rP (g : Nat) (l : List UInt8) (w0 w : World) (h : Rd w0 w g l) (hb : Below w0.heap.size w0 w) (hg : w0.heap.size ≤ g) (hm : (l.length : Int) ≤ 100000) :
    Calls Tryd.prog 121 #[.pointer (some ⟨g, 0, none⟩)] w (PP (lM l) (fun xs v w' => Kd.R k139 139 w' w.heap.size (fun _ => True) v xs) w0 w g) := by
  have HR := iC.mk h
  have HB := iC.mk hb
  have hlt := h.lt
  clear h hb
  cases hmy : many 4 9 l with
  | none =>
    have hn : lM l = none := by unfold lM; rw [hmy]; rfl
    have hcall := o7 4 9 4 9 rfl rfl (by omega) (by omega) g l w0 w HR.out HB.out hg hmy
    have HN := iC.mk hn
    clear hmy hn
    go_enter Tryd.func121, Tryd.ntmps121
    go_wp2_with (go_at_call 130; refine hcall.mono ?_; rintro e w1 ⟨rfl, hG⟩)
    exact ⟨rfl, hG, .inr ⟨HN.out, rfl⟩⟩
  | some x =>
    obtain ⟨n, r0⟩ := x
    have hn : lM l = repP oD n r0 := by unfold lM; rw [hmy]; rfl
    have hcall := vT 4 9 4 9 rfl rfl (by omega) (by omega) g l r0 n w0 w HR.out HB.out hg hmy
    have HN := iC.mk hn
    obtain ⟨hl1, hl2⟩ := lC hmy (by omega)
    have hn1 : (n : Int) ≤ 100000 := by omega
    have hr0 : (r0.length : Int) ≤ 100000 := by omega
    have hmk := qP (t := 24) (e := 139) Tryd.underlying24 OT (by omega) n hn1
    clear hmy hn hl1 hl2
    go_enter Tryd.func121, Tryd.ntmps121
    go_wp2_with (go_at_call 130; refine hcall.mono ?_; rintro e w1 ⟨rfl, hR, hG, hle⟩; clear hle; have HR1 := iC.mk hR; have HG1 := iC.mk hG; clear hR hG)
    have HO := iC.mk (NU (e := 139) (W := w1) (n := n) (base := w.heap.size) (x := .slice none 0 0) (y := .int .i64 0) rfl rfl (by omega) HG1.out.size)
    have HG := iC.mk (iR HG1.out (grown_below (iF (Below.refl _ _) (.cells (madeCells #[.slice none 0 0, .int .i64 0] (n * 2)) 139))))
    have HR2 := iC.mk (Rd.grown HR1.out (grown_below (row := none) (iF (Below.refl _ _) (.cells (madeCells #[.slice none 0 0, .int .i64 0] (n * 2)) 139))) (by simp))
    clear HR1 HG1 hcall hmk
    obtain ⟨ad, had⟩ : ∃ ad : Addr, ad = ⟨w1.heap.size, 0, none⟩ := ⟨_, rfl⟩
    rw [← had] at HO ⊢
    obtain ⟨W2, hW⟩ : ∃ W2, W2 = w1.alloc (.cells (madeCells #[.slice none 0 0, .int .i64 0] (n * 2)) 139) := ⟨_, rfl⟩
    rw [← hW] at HO HG HR2
    first | rw [← hW] | (rw [show w1.alloc (.cells (madeCells (Value.agg #[.slice none 0 0, .int .i64 0]).cells (n * 2)) 139) = W2 from hW.symm])
    clear hW had
    go_loopw [11] (fun i wr => ∃ (k : Nat) (done : List jO) (r : List UInt8) (rows : List (List Value)), k ≤ n ∧ i = .int .i64 k ∧ iC (Left oD n k r0 r done) ∧ (r.length : Int) ≤ 100000 ∧ iC (Rd w0 wr g r) ∧ iC (RW 139 wr w.heap.size (.slice (some ad) n n) rows) ∧ iC (rows.length = n) ∧ iC (lH k139 wr w.heap.size (fun b => b ≠ ad.block) done rows) ∧ iC (w.grownBy wr (some g))) (fun i _ => n - (intOf i).toNat)
    case atStart => exact ⟨0, [], r0, _, Nat.zero_le _, rfl, ⟨Left.start _ _ _⟩, hr0, HR2, HO, ⟨List.length_replicate⟩, ⟨fun j p c hj _ => by simp at hj⟩, HG⟩
    case round =>
      obtain ⟨k, done, r, rows, hk, rfl, HL, hrl, HRd, HOk, HLEN, HD, HGk⟩ := hrel
      clear HR2 HO HG
      by_cases hkn : k < n
      · cases hp : many 1 4 r with
        | none =>
          have hcall := o7 1 4 1 4 rfl rfl (by omega) (by omega) g r w0 wr HRd.out (below_grown HB.out HGk.out hg (Nat.le_refl _)) hg hp
          have HF := iC.mk (Left.fail HL.out hkn (IQ hp))
          clear hp
          go_wp2_with (go_at_call 130; refine hcall.mono ?_; rintro e w2 ⟨rfl, hG⟩)
          exact ⟨rfl, iR HGk.out hG, .inr ⟨by rw [HN.out]; exact HF.out, rfl⟩⟩
        | some x =>
          obtain ⟨nk, r1⟩ := x
          have hcall := vT 1 4 1 4 rfl rfl (by omega) (by omega) g r r1 nk w0 wr HRd.out (below_grown HB.out HGk.out hg (Nat.le_refl _)) hg hp
          obtain ⟨hl1, hl2⟩ := lC hp (by omega)
          have hnk : (nk : Int) ≤ 100000 := by omega
          have hr1 : (r1.length : Int) ≤ 100000 := by omega
          have hmk := qP (t := 23) (e := 3) Tryd.underlying23 info3 (by omega) nk hnk
          have HP := iC.mk hp
          clear hp hl1 hl2
          obtain ⟨wo, rfl⟩ : ∃ wo : World, wo = wr := ⟨_, rfl⟩
          obtain ⟨_, _, _, _, _, _, _, _, hadlt, _, _⟩ := yF HOk.out k hkn
          go_wp2_with (go_at_call 130; refine hcall.mono ?_; rintro e w2 ⟨rfl, hR, hG, hle⟩; clear hle; have HR1 := iC.mk hR; have HG1 := iC.mk hG; clear hR; obtain ⟨x0, y0, hrow, z0, z1, f0, f1, hbs, hbl, hset0, _⟩ := yF (Kd.R_below (jM HOk.out hG hlt) (iF (Below.refl _ _) (.cells (madeCells #[.int .i64 0] nk) 3))) k hkn; have HROW := iC.mk hrow; have HSET := iC.mk hset0; clear hrow hset0 hG z1 f1 hbl; rename_i junk_; clear junk_)
          clear hcall hmk z0 f0
          obtain ⟨hs3, hg3⟩ := HSET.out (.slice (some ⟨w2.heap.size, 0, none⟩) nk nk) rfl
          have hRI0 : RI (w2.alloc (.cells (madeCells #[.int .i64 0] nk) 3)) w.heap.size (.slice (some ⟨w2.heap.size, 0, none⟩) nk nk) (List.replicate nk 0) := QZ (by omega) (iR HGk.out HG1.out).size
          have hsz2 : wo.heap.size ≤ w2.heap.size := HG1.out.size
          have hRI := IC hRI0 rfl hg3 (by simp [Value.ownBlock]; omega)
          have hgW : w.grownBy ((w2.alloc (.cells (madeCells #[.int .i64 0] nk) 3)).setCell (ad.add (k * 2)) (.slice (some ⟨w2.heap.size, 0, none⟩) nk nk)) (some g) :=
            jU (iR (iR HGk.out HG1.out) (grown_below (iF (Below.refl _ _) _))) hg3 hbs
          have hRd3 := Rd.grown (Rd.grown HR1.out (grown_below (row := none) (iF (Below.refl _ _) (.cells (madeCells #[.int .i64 0] nk) 3))) (by simp)) hg3 (by intro e; injection e with e; omega)
          have hD3 : lH k139 ((w2.alloc (.cells (madeCells #[.int .i64 0] nk) 3)).setCell (ad.add (k * 2)) (.slice (some ⟨w2.heap.size, 0, none⟩) nk nk)) w.heap.size (fun b => b ≠ ad.block ∧ b < wo.heap.size) done (rows.set k [.slice (some ⟨w2.heap.size, 0, none⟩) nk nk, y0]) :=
            lH.set (HD.out.bound.move (fun b hP hb hl => by
              have h1 : b ≠ g := by omega
              have h2 := HG1.out.block b hl (fun e => h1 (by injection e))
              have h3 : (w2.alloc (.cells (madeCells #[.int .i64 0] nk) 3)).heap[b]? = w2.heap[b]? := Below.heap_alloc _ _ _ (by omega)
              exact (hg3.block b (by simp; omega) (fun e => hP.1 (by injection e))).trans (h3.trans h2))) (by rw [HL.out.1]; exact Nat.le_refl _) _
          have HKB := iC.mk (show w2.heap.size ≠ ad.block ∧ wo.heap.size ≤ w2.heap.size from ⟨by omega, hsz2⟩)
          have HS3 := iC.mk hs3
          have HRI3 := iC.mk hRI
          have HG3 := iC.mk hgW
          have HRd3 := iC.mk hRd3
          have HD3 := iC.mk hD3
          clear hs3 hg3 hRI0 hRI hgW hRd3 hD3 HSET HR1 HG1 hsz2 HROW
          obtain ⟨kad, hkad⟩ : ∃ kad : Addr, kad = ⟨w2.heap.size, 0, none⟩ := ⟨_, rfl⟩
          rw [show w2.heap.size = kad.block by rw [hkad]] at HKB
          rw [← hkad] at HS3 HRI3 HG3 HRd3 HD3 ⊢
          obtain ⟨W3, hW3⟩ : ∃ W3, W3 = (w2.alloc (.cells (madeCells #[.int .i64 0] nk) 3)).setCell (ad.add (k * 2)) (.slice (some kad) nk nk) := ⟨_, rfl⟩
          rw [← hW3] at HS3 HRI3 HG3 HRd3 HD3
          first | rw [← hW3] | (rw [show (w2.alloc (.cells (madeCells (Value.int .i64 0).cells (nk * 1)) 3)).setCell (ad.add (k * 2)) (.slice (some kad) nk nk) = W3 from by rw [hW3, Nat.mul_one]; rfl])
          clear hW3 hkad
          have hadI : (k : Int) < (n : Int) := by omega
          have HKN := iC.mk hkn
          go_loopw [27] (fun i wi => ∃ (j : Nat) (kd : List Int) (r2 : List UInt8), j ≤ nk ∧ i = .int .i64 j ∧ iC (Left (intP 4) nk j r1 r2 kd) ∧ (r2.length : Int) ≤ 100000 ∧ iC (Rd w0 wi g r2) ∧ iC (RI wi w.heap.size (.slice (some kad) nk nk) (kd ++ List.replicate (nk - j) 0)) ∧ iC (RW 139 wi w.heap.size (.slice (some ad) n n) (rows.set k [.slice (some kad) nk nk, y0])) ∧ iC (lH k139 wi w.heap.size (fun b => b ≠ ad.block ∧ b < wo.heap.size) done (rows.set k [.slice (some kad) nk nk, y0])) ∧ iC (w.grownBy wi (some g))) (fun i _ => nk - (intOf i).toNat)
          case atStart => exact ⟨0, [], r1, Nat.zero_le _, rfl, ⟨Left.start _ _ _⟩, hr1, HRd3, HRI3, HS3, HD3, HG3⟩
          case round =>
            obtain ⟨j, kd, r2, hj, rfl, HLk, hrl2, HRd, HRI, HOk, HD, HGi⟩ := hrel
            clear HRd3 HRI3 HS3 HD3 HG3
            obtain ⟨xx, yy, hrow, hz0, hz1, hf0, hf1, _, hbl2, _, hset1⟩ := yF HOk.out k hkn
            rw [yS _ _ _ (by rw [HLEN.out]; exact hkn)] at hrow
            injection hrow with hrow1 hrow2
            injection hrow2 with hrow2 _
            subst hrow1; subst hrow2
            by_cases hjn : j < nk
            · cases hp4 : intP 4 r2 with
              | none =>
                have HP4 := iC.mk hp4
                have HF := iC.mk (Left.fail HL.out hkn (II HP.out (Left.fail HLk.out hjn hp4)))
                have Z0 := iC.mk hz0
                clear hp4 hset1 hz1 hf1 hz0
                go_wp2
                refine xU [30, 31, 32, 33, 34, 35, 36, 37, 38, 39] (fun i => [.slice (some ad) n n, .int .i64 (k : Int), .pointer (some (ad.add (k * 2))), .pointer (some (ad.add (k * 2))), .slice (some kad) nk nk, .int .i64 (j : Int), .pointer (some ⟨g, 0, none⟩), .int .u64 0, .int .i64 0, .pointer (some (kad.add j))].getD i undef) 7 (fun _ => False) (fun _ => False) [0, 1, 2, 3, 4, 5, 6, 7, 8, 9, 10] [0, 1, 2, 3, 4, 5, 6, 8, 9] (true, [([], []), ([], []), ([0, 1], [0, 1]), ([2], [2]), ([3], [3]), ([], []), ([], []), ([6], [6]), ([7], [7]), ([4, 5, 0, 1, 2, 3, 4, 5, 6, 7, 8], [4, 5]), ([9, 8, 7, 0, 1, 2, 3, 4, 5, 6, 7, 8], [8, 9])]) [0, 0, 3, 7, 15, 0, 0, 64, 192, 511, 1023] (by kernel_rfl) (by kernel_rfl) (by kernel_rfl) (by kernel_rfl) (by kernel_rfl) (by kernel_rfl) (by kernel_rfl) (by rfl) (by kernel_rfl) (by kernel_rfl) (by kernel_rfl) ?_ ?_ (by kernel_rfl) ?_ ?_
                · refine jQ ?_ ?_
                  · intro a w' hok ⟨hel, hd, _⟩
                    have e3 : a.tmps[3]? = some (.slice (some ad) n n) := (hel 3 (by kernel_rfl)).trans (by rfl)
                    refine ⟨_, rfl, rfl, fun K hK => ?_⟩
                    refine kG (w1 := w') (v := .slice (some ad) n n) (by rfl) rfl ?_ hK
                    go_simp
                    (try simp only [iY, kP])
                    (try rfl)
                    (try (unfold Go.RowKit.wrap64; omega))
                  refine jQ ?_ ?_
                  · intro a w' hok ⟨hel, hd, _⟩
                    have e4 : a.tmps[4]? = some (.int .i64 (k : Int)) := (hel 4 (by kernel_rfl)).trans (by rfl)
                    refine ⟨_, rfl, rfl, fun K hK => ?_⟩
                    refine kG (w1 := w') (v := .int .i64 (k : Int)) (by rfl) rfl ?_ hK
                    go_simp
                    (try simp only [iY, kP])
                    (try rfl)
                    (try (unfold Go.RowKit.wrap64; omega))
                  refine jQ ?_ ?_
                  · intro a w' hok ⟨hel, hd, _⟩
                    have e30 : a.tmps[30]? = some (.slice (some ad) n n) := hd 0 (by kernel_rfl)
                    have e31 : a.tmps[31]? = some (.int .i64 (k : Int)) := hd 1 (by kernel_rfl)
                    refine ⟨_, rfl, rfl, fun K hK => ?_⟩
                    refine kG (w1 := w') (v := .pointer (some (ad.add (k * 2)))) (by rfl) rfl ?_ hK
                    go_simp
                    (try simp only [iY, kP])
                    (try rfl)
                    (try (unfold Go.RowKit.wrap64; omega))
                  refine jQ ?_ ?_
                  · intro a w' hok ⟨hel, hd, _⟩
                    have e32 : a.tmps[32]? = some (.pointer (some (ad.add (k * 2)))) := hd 2 (by kernel_rfl)
                    refine ⟨_, rfl, rfl, fun K hK => ?_⟩
                    refine kG (w1 := w') (v := .pointer (some (ad.add (k * 2)))) (by rfl) rfl ?_ hK
                    go_simp
                    (try simp only [iY, kP])
                    (try rfl)
                    (try (unfold Go.RowKit.wrap64; omega))
                  refine jQ ?_ ?_
                  · intro a w' hok ⟨hel, hd, _⟩
                    have e33 : a.tmps[33]? = some (.pointer (some (ad.add (k * 2)))) := hd 3 (by kernel_rfl)
                    have hz : w'.cell? (ad.add (k * 2)) = some (.slice (some kad) nk nk) := by (rcases hok with rfl | hf; exact Z0.out; exact hf.elim)
                    refine ⟨_, rfl, rfl, fun K hK => ?_⟩
                    refine kG (w1 := w') (v := .slice (some kad) nk nk) (by rfl) rfl ?_ hK
                    go_simp
                    (try simp only [iY, kP])
                    (try rfl)
                    (try (unfold Go.RowKit.wrap64; omega))
                  refine jQ ?_ ?_
                  · intro a w' hok ⟨hel, hd, _⟩
                    have e5 : a.tmps[5]? = some (.int .i64 (j : Int)) := (hel 5 (by kernel_rfl)).trans (by rfl)
                    refine ⟨_, rfl, rfl, fun K hK => ?_⟩
                    refine kG (w1 := w') (v := .int .i64 (j : Int)) (by rfl) rfl ?_ hK
                    go_simp
                    (try simp only [iY, kP])
                    (try rfl)
                    (try (unfold Go.RowKit.wrap64; omega))
                  refine jQ ?_ ?_
                  · intro a w' hok ⟨hel, hd, _⟩
                    have e0 : a.tmps[0]? = some (.pointer (some ⟨g, 0, none⟩)) := (hel 0 (by kernel_rfl)).trans (by rfl)
                    refine ⟨_, rfl, rfl, fun K hK => ?_⟩
                    refine kG (w1 := w') (v := .pointer (some ⟨g, 0, none⟩)) (by rfl) rfl ?_ hK
                    go_simp
                    (try simp only [iY, kP])
                    (try rfl)
                    (try (unfold Go.RowKit.wrap64; omega))
                  refine jQ ?_ ?_
                  · intro a w' hok ⟨hel, hd, _⟩
                    have e37 : a.tmps[37]? = some (.int .u64 0) := hd 7 (by kernel_rfl)
                    refine ⟨_, rfl, rfl, fun K hK => ?_⟩
                    refine kG (w1 := w') (v := .int .i64 0) (by rfl) rfl ?_ hK
                    go_simp
                    (try simp only [iY, kP])
                    (try rfl)
                    (try (unfold Go.RowKit.wrap64; omega))
                  refine jQ ?_ ?_
                  · intro a w' hok ⟨hel, hd, _⟩
                    have e34 : a.tmps[34]? = some (.slice (some kad) nk nk) := hd 4 (by kernel_rfl)
                    have e35 : a.tmps[35]? = some (.int .i64 (j : Int)) := hd 5 (by kernel_rfl)
                    refine ⟨_, rfl, rfl, fun K hK => ?_⟩
                    refine kG (w1 := w') (v := .pointer (some (kad.add j))) (by rfl) rfl ?_ hK
                    go_simp
                    (try simp only [iY, kP])
                    (try rfl)
                    (try (unfold Go.RowKit.wrap64; omega))
                  exact xY
                · intro a ⟨hel, hd, hdef⟩
                  have e36 : a.tmps[36]? = some (.pointer (some ⟨g, 0, none⟩)) := hd 6 (by kernel_rfl)
                  refine ⟨_, rfl, rfl, fun K hK => ?_⟩
                  refine RG Tryd.func119 (by kernel_rfl) rfl #[.pointer (some ⟨g, 0, none⟩), (Value.int IntKind.i64 4)] (by rfl) rfl (by first | (simp only [List.map_toArray, List.map_cons, List.map_nil, Act.eval, Array.getD_eq_getD_getElem?, Option.getD_some, e36]; done) | (simp only [List.map_toArray, List.map_cons, List.map_nil, Act.eval, Array.getD_eq_getD_getElem?, Option.getD_some, e36]; rfl)) ?_
                  refine (jT 4 4 rfl g r2 w0 wr.drew HRd.out (kU HP4.out)).mono ?_
                  rintro e_ w2_ ⟨rfl, hG⟩
                  exact ⟨_, rfl, hdef, iR HGi.out ⟨hG.os, hG.tape, hG.output, hG.size, hG.block⟩, .inr ⟨by rw [HN.out]; exact HF.out, rfl⟩⟩
                · intro a w' hA ⟨hel, hd, _⟩
                  exact hA.elim
                · intro w' hF
                  exact hF.elim
              | some x =>
                obtain ⟨x, r3⟩ := x
                obtain ⟨hs1, hx, hr3⟩ := mD hp4
                have hr3l := nN 4 _ _ _ hp4
                have HN1 := iC.mk (Left.next HLk.out hjn hp4)
                have hcall := lY 4 4 rfl (by omega) g r2 w0 wr.drew HRd.out (rW (below_grown HB.out HGi.out hg (Nat.le_refl _))) hs1
                have hsm := lX r2 4 (by omega)
                rw [← hr3] at hcall
                obtain ⟨m, hm1⟩ : ∃ m, m = numB (r2.take 4) := ⟨_, rfl⟩
                rw [← hm1] at hcall hsm hx
                subst hx
                have HCALL := iC.mk hcall
                have Z0 := iC.mk hz0
                have HBL2 := iC.mk hbl2
                clear hp4 hr3 hm1 hs1 hcall hset1 hz1 hf1 hz0
                go_wp2
                refine xU [30, 31, 32, 33, 34, 35, 36, 37, 38, 39] (fun i => [.slice (some ad) n n, .int .i64 (k : Int), .pointer (some (ad.add (k * 2))), .pointer (some (ad.add (k * 2))), .slice (some kad) nk nk, .int .i64 (j : Int), .pointer (some ⟨g, 0, none⟩), .int .u64 (m : Int), .int .i64 (m : Int), .pointer (some (kad.add j))].getD i undef) 7 (fun W => Rd w0 W g r3 ∧ wr.grownBy W (some g)) (fun W => ∃ W1, (Rd w0 W1 g r3 ∧ wr.grownBy W1 (some g)) ∧ W = W1.setCell (kad.add j) (.int .i64 (m : Int))) [0, 1, 2, 3, 4, 5, 6, 7, 8, 9, 10] [0, 1, 2, 3, 4, 5, 6, 8, 9] (true, [([], []), ([], []), ([0, 1], [0, 1]), ([2], [2]), ([3], [3]), ([], []), ([], []), ([6], [6]), ([7], [7]), ([4, 5, 0, 1, 2, 3, 4, 5, 6, 7, 8], [4, 5]), ([9, 8, 7, 0, 1, 2, 3, 4, 5, 6, 7, 8], [8, 9])]) [0, 0, 3, 7, 15, 0, 0, 64, 192, 511, 1023] (by kernel_rfl) (by kernel_rfl) (by kernel_rfl) (by kernel_rfl) (by kernel_rfl) (by kernel_rfl) (by kernel_rfl) (by rfl) (by kernel_rfl) (by kernel_rfl) (by kernel_rfl) ?_ ?_ (by kernel_rfl) ?_ ?_
                · refine jQ ?_ ?_
                  · intro a w' hok ⟨hel, hd, _⟩
                    have e3 : a.tmps[3]? = some (.slice (some ad) n n) := (hel 3 (by kernel_rfl)).trans (by rfl)
                    refine ⟨_, rfl, rfl, fun K hK => ?_⟩
                    refine kG (w1 := w') (v := .slice (some ad) n n) (by rfl) rfl ?_ hK
                    go_simp
                    (try simp only [iY, kP])
                    (try rfl)
                    (try (unfold Go.RowKit.wrap64; omega))
                  refine jQ ?_ ?_
                  · intro a w' hok ⟨hel, hd, _⟩
                    have e4 : a.tmps[4]? = some (.int .i64 (k : Int)) := (hel 4 (by kernel_rfl)).trans (by rfl)
                    refine ⟨_, rfl, rfl, fun K hK => ?_⟩
                    refine kG (w1 := w') (v := .int .i64 (k : Int)) (by rfl) rfl ?_ hK
                    go_simp
                    (try simp only [iY, kP])
                    (try rfl)
                    (try (unfold Go.RowKit.wrap64; omega))
                  refine jQ ?_ ?_
                  · intro a w' hok ⟨hel, hd, _⟩
                    have e30 : a.tmps[30]? = some (.slice (some ad) n n) := hd 0 (by kernel_rfl)
                    have e31 : a.tmps[31]? = some (.int .i64 (k : Int)) := hd 1 (by kernel_rfl)
                    refine ⟨_, rfl, rfl, fun K hK => ?_⟩
                    refine kG (w1 := w') (v := .pointer (some (ad.add (k * 2)))) (by rfl) rfl ?_ hK
                    go_simp
                    (try simp only [iY, kP])
                    (try rfl)
                    (try (unfold Go.RowKit.wrap64; omega))
                  refine jQ ?_ ?_
                  · intro a w' hok ⟨hel, hd, _⟩
                    have e32 : a.tmps[32]? = some (.pointer (some (ad.add (k * 2)))) := hd 2 (by kernel_rfl)
                    refine ⟨_, rfl, rfl, fun K hK => ?_⟩
                    refine kG (w1 := w') (v := .pointer (some (ad.add (k * 2)))) (by rfl) rfl ?_ hK
                    go_simp
                    (try simp only [iY, kP])
                    (try rfl)
                    (try (unfold Go.RowKit.wrap64; omega))
                  refine jQ ?_ ?_
                  · intro a w' hok ⟨hel, hd, _⟩
                    have e33 : a.tmps[33]? = some (.pointer (some (ad.add (k * 2)))) := hd 3 (by kernel_rfl)
                    have hz : w'.cell? (ad.add (k * 2)) = some (.slice (some kad) nk nk) := by (rcases hok with rfl | hf; exact Z0.out; exact hf.2.cell Z0.out (by rw [show (ad.add (k * 2)).block = ad.block from by (unfold Addr.add; split <;> rfl)]; intro e; injection e with e; omega))
                    refine ⟨_, rfl, rfl, fun K hK => ?_⟩
                    refine kG (w1 := w') (v := .slice (some kad) nk nk) (by rfl) rfl ?_ hK
                    go_simp
                    (try simp only [iY, kP])
                    (try rfl)
                    (try (unfold Go.RowKit.wrap64; omega))
                  refine jQ ?_ ?_
                  · intro a w' hok ⟨hel, hd, _⟩
                    have e5 : a.tmps[5]? = some (.int .i64 (j : Int)) := (hel 5 (by kernel_rfl)).trans (by rfl)
                    refine ⟨_, rfl, rfl, fun K hK => ?_⟩
                    refine kG (w1 := w') (v := .int .i64 (j : Int)) (by rfl) rfl ?_ hK
                    go_simp
                    (try simp only [iY, kP])
                    (try rfl)
                    (try (unfold Go.RowKit.wrap64; omega))
                  refine jQ ?_ ?_
                  · intro a w' hok ⟨hel, hd, _⟩
                    have e0 : a.tmps[0]? = some (.pointer (some ⟨g, 0, none⟩)) := (hel 0 (by kernel_rfl)).trans (by rfl)
                    refine ⟨_, rfl, rfl, fun K hK => ?_⟩
                    refine kG (w1 := w') (v := .pointer (some ⟨g, 0, none⟩)) (by rfl) rfl ?_ hK
                    go_simp
                    (try simp only [iY, kP])
                    (try rfl)
                    (try (unfold Go.RowKit.wrap64; omega))
                  refine jQ ?_ ?_
                  · intro a w' hok ⟨hel, hd, _⟩
                    have e37 : a.tmps[37]? = some (.int .u64 (m : Int)) := hd 7 (by kernel_rfl)
                    refine ⟨_, rfl, rfl, fun K hK => ?_⟩
                    refine kG (w1 := w') (v := .int .i64 (m : Int)) (by rfl) rfl ?_ hK
                    go_simp
                    (try simp only [iY, kP])
                    (try rfl)
                    (try (unfold Go.RowKit.wrap64; omega))
                  refine jQ ?_ ?_
                  · intro a w' hok ⟨hel, hd, _⟩
                    have e34 : a.tmps[34]? = some (.slice (some kad) nk nk) := hd 4 (by kernel_rfl)
                    have e35 : a.tmps[35]? = some (.int .i64 (j : Int)) := hd 5 (by kernel_rfl)
                    refine ⟨_, rfl, rfl, fun K hK => ?_⟩
                    refine kG (w1 := w') (v := .pointer (some (kad.add j))) (by rfl) rfl ?_ hK
                    go_simp
                    (try simp only [iY, kP])
                    (try rfl)
                    (try (unfold Go.RowKit.wrap64; omega))
                  exact xY
                · intro a ⟨hel, hd, hdef⟩
                  have e36 : a.tmps[36]? = some (.pointer (some ⟨g, 0, none⟩)) := hd 6 (by kernel_rfl)
                  refine ⟨_, rfl, rfl, fun K hK => ?_⟩
                  refine rE Tryd.func119 (by kernel_rfl) rfl #[.pointer (some ⟨g, 0, none⟩), (Value.int IntKind.i64 4)] (by rfl) rfl rfl (by first | (simp only [List.map_toArray, List.map_cons, List.map_nil, Act.eval, Array.getD_eq_getD_getElem?, Option.getD_some, e36]; done) | (simp only [List.map_toArray, List.map_cons, List.map_nil, Act.eval, Array.getD_eq_getD_getElem?, Option.getD_some, e36]; rfl)) ?_
                  refine HCALL.out.mono ?_
                  rintro e_ w2_ ⟨rfl, hR, hG⟩
                  exact ⟨_, rfl, hK _ ⟨hR, ⟨hG.os, hG.tape, hG.output, hG.size, hG.block⟩⟩⟩
                · intro a w' hA ⟨hel, hd, _⟩
                  have e39 : a.tmps[39]? = some (.pointer (some (kad.add j))) := hd 9 (by kernel_rfl)
                  have e38 : a.tmps[38]? = some (.int .i64 (m : Int)) := hd 8 (by kernel_rfl)
                  obtain ⟨⟨old, ho⟩, hf, _⟩ := TJ (jM HRI.out hA.2 hlt) j hjn (m : Int)
                  refine ⟨_, rfl, rfl, fun K hK => ?_⟩
                  refine UF (w1 := w'.setCell (kad.add j) (.int .i64 (m : Int))) (by rfl) rfl ?_ (hK _ ?_)
                  · go_simp
                    (try rfl)
                  · exact ⟨w', hA, rfl⟩
                · intro w' hF
                  rw [show entries [30, 31, 32, 33, 34, 35, 36, 37, 38, 39] (fun i => [.slice (some ad) n n, .int .i64 (k : Int), .pointer (some (ad.add (k * 2))), .pointer (some (ad.add (k * 2))), .slice (some kad) nk nk, .int .i64 (j : Int), .pointer (some ⟨g, 0, none⟩), .int .u64 (m : Int), .int .i64 (m : Int), .pointer (some (kad.add j))].getD i undef) = [(0, 30, .slice (some ad) n n), (1, 31, .int .i64 (k : Int)), (2, 32, .pointer (some (ad.add (k * 2)))), (3, 33, .pointer (some (ad.add (k * 2)))), (4, 34, .slice (some kad) nk nk), (5, 35, .int .i64 (j : Int)), (6, 36, .pointer (some ⟨g, 0, none⟩)), (7, 37, .int .u64 (m : Int)), (8, 38, .int .i64 (m : Int)), (9, 39, .pointer (some (kad.add j)))] from rfl]
                  simp only [kD, if_true, Act.put, List.setIfInBounds_toArray, List.set_cons_zero, List.set_cons_succ, List.map_toArray, List.map_cons, List.map_nil]
                  obtain ⟨W4, ⟨hR4, hG4⟩, rfl⟩ := hF
                  obtain ⟨_, _, hbk, hset, hgr⟩ := TJ (jM HRI.out hG4 hlt) j hjn (m : Int)
                  have HSI := iC.mk hset
                  have HGI := iC.mk (jU (iR HGi.out hG4) hgr hbk)
                  have HRR := iC.mk (Rd.grown hR4 hgr (by intro e; injection e with e; omega))
                  have HOI := iC.mk (IC (jM HOk.out hG4 hlt) rfl hgr (by simp [Value.ownBlock]; exact HKB.out.1))
                  have HDI := iC.mk (lH.other (lH.grown HD.out hG4 hlt) hgr (fun b hb e => by have := HKB.out.2; omega))
                  clear hset hgr hR4 hG4 hbk
                  go_wp2
                  go_roundw
                  case rel => exact ⟨j + 1, kd ++ [(m : Int)], r3, by omega, by go_num, HN1, by omega, HRR, ⟨by rw [← JC _ _ _ _ _ HLk.out.1 hjn]; exact HSI.out⟩, HOI, HDI, HGI⟩
                  case measure => simp [intOf]; omega
            · obtain rfl : j = nk := by omega
              have hRI := HRI.out
              rw [Nat.sub_self, List.replicate_zero, List.append_nil] at hRI
              have hL4 := Left.done HLk.out
              cases hp8 : number 8 r2 with
              | none =>
                have hcall := jT 8 8 rfl g r2 w0 wr HRd.out (qF hp8)
                have HF := iC.mk (Left.fail HL.out hkn (J9 HP.out hL4 hp8))
                clear hp8 hL4 hset1 hRI
                go_wp2_with (go_at_call 119; refine hcall.mono ?_; rintro e w4 ⟨rfl, hG⟩)
                exact ⟨rfl, iR HGi.out hG, .inr ⟨by rw [HN.out]; exact HF.out, rfl⟩⟩
              | some x =>
                obtain ⟨m, r3⟩ := x
                obtain ⟨hs8, hm8, hr8⟩ := lQ hp8
                have HN1 := iC.mk (Left.next HL.out hkn (xO HP.out hL4 hp8))
                have hcall := lY 8 8 rfl (by omega) g r2 w0 wr HRd.out (below_grown HB.out HGi.out hg (Nat.le_refl _)) hs8
                rw [← hm8, ← hr8] at hcall
                have hmb : m < 18446744073709551616 := by rw [hm8]; exact TM _
                have hw64 := L8 m hmb
                have hr3l : (r3.length : Int) ≤ 100000 := by rw [hr8, List.length_drop]; omega
                have HRIx := iC.mk hRI
                have HMB := iC.mk hmb
                have hmI : (m : Int) < 18446744073709551616 := by omega
                clear hp8 hL4 hset1 hRI hm8 hr8 hs8 hmb hz0 hz1 hf0 hf1 hbl2
                go_wp2_with (go_at_call 119; refine hcall.mono ?_; rintro e w4 ⟨rfl, hR, hG⟩; obtain ⟨xx, yy, hrow, hz0, hz1, hf0, hf1, _, hbl2, _, hset1⟩ := yF (jM HOk.out hG hlt) k hkn; rw [yS _ _ _ (by rw [HLEN.out]; exact hkn)] at hrow; injection hrow with hrow1 hrow2; subst hrow1; clear hrow2; have HSET1 := iC.mk hset1; have HR4 := iC.mk hR; have HG4 := iC.mk hG; clear hset1 hR hG hz0 hf0)
                obtain ⟨hsV, hgV⟩ := HSET1.out (.int .i64 (s64 m)) rfl
                rw [List.set_set] at hsV
                have HGV := iC.mk (jU (iR HGi.out HG4.out) hgV hbs)
                have HRV := iC.mk (Rd.grown HR4.out hgV (by intro e; injection e with e; omega))
                have hRIk := Kd.R_tight rfl (IC (jM HRIx.out HG4.out hlt) rfl hgV (by simp [Value.ownBlock]; intro e; exact HKB.out.1 e.symm))
                have hDk := (lH.other (lH.grown HD.out HG4.out hlt) hgV (fun b hb => hb.1)).mono (fun b hb => hb.1)
                have hDk' := hDk.set (k := k) (by rw [HL.out.1]; exact Nat.le_refl _) [.slice (some kad) j j, .int .i64 (s64 m)]
                rw [List.set_set] at hDk'
                have hDone := hDk'.snoc (x := ⟨kd, s64 m⟩) (c := [.slice (some kad) j j, .int .i64 (s64 m)]) (by rw [HL.out.1]; exact List.getElem?_set_self (by rw [HLEN.out]; exact hkn)) (LC _ _ _ ⟨kd, s64 m⟩ (Kd.R_mono hRIk (fun b hb => by
                  have hb' : kad.block = b := by simpa [Value.ownBlock] using hb.symm
                  rw [← hb']; exact HKB.out.1)))
                have HDONE := iC.mk hDone
                have HSV := iC.mk hsV
                have HLEN2 := iC.mk (show (rows.set k [.slice (some kad) j j, .int .i64 (s64 m)]).length = n from by rw [List.length_set]; exact HLEN.out)
                clear hsV hgV hRIk hDk hDk' hDone hcall
                go_roundw
                case rel => exact ⟨k + 1, done ++ [⟨kd, s64 m⟩], r3, _, by omega, by go_num, HN1, hr3l, HRV, HSV, HLEN2, HDONE, HGV⟩
                case measure => simp [intOf]; omega
      · obtain rfl : k = n := by omega
        go_wp2
        go_ret
        refine ⟨HGk.out, .inl ⟨done, r, _, by rw [HN.out]; exact Left.done HL.out, rfl, ?_, HRd.out⟩⟩
        refine yL rfl HOk.out (by rw [HL.out.1, HLEN.out]) (fun _ _ => trivial) (fun j p c hj hc => ?_)
        exact k139.M_mono (fun b hb => ⟨trivial, by simp [Value.ownBlock]; exact hb⟩) (HD.out j p c hj hc)
end Go.Proofs.YtgfkgppomaapiaaDoor.K
end

section
namespace Go.Proofs.YtgfkgppomaapiaaDoor.K
open RowKit YtgfkgppomaapiaaDoorW.PrintWords YtgfkgppomaapiaaDoorW.PrintLast YtgfkgppomaapiaaDoorW.PrintMore My
theorem QM {l r0 : List UInt8} {n : Nat} (h : many 4 9 l = some (n, r0)) : lM l = repP oD n r0 := by unfold lM; rw [h]; rfl
theorem zB (s least : Nat) (S T : Int) (hS : S = s) (hT : T = least) (hs8 : s ≤ 8) (h1 : 1 ≤ least) (g : Nat) (l : List UInt8) (w0 w : World) (h : RB w0 w g l false) (hb : Below w0.heap.size w0 w) :
    Calls Tryd.prog 101 #[.pointer (some ⟨g, 0, none⟩), .int .i64 S, .int .i64 T] w fun e w' => ∃ (n : Nat) (l' : List UInt8) (b : Bool), e = .returned (.int .i64 (n : Int)) ∧ RB w0 w' g l' b ∧ w.grownBy w' (some g) ∧ (l'.length ≤ l.length ∧ n * least ≤ l'.length) ∧ ((b = false → many s least l = some (n, l')) ∧ (b = true → n = 0 ∧ many s least l = none)) := by
  cases hm : many s least l with
  | none =>
    refine (oW s least S T hS hT hs8 h1 g l false w0 w h hb (.inr hm)).mono ?_
    rintro e w1 ⟨rfl, ⟨r, hr, hR⟩, hG⟩
    exact ⟨0, r, true, rfl, hR, hG, ⟨hr, by omega⟩, fun h => (by cases h), fun _ => ⟨rfl, rfl⟩⟩
  | some x =>
    obtain ⟨n, r⟩ := x
    refine (uO s least S T hS hT hs8 h1 g l r n w0 w h hb hm).mono ?_
    rintro e w1 ⟨rfl, hR, hG⟩
    obtain ⟨h2, h3⟩ := lC hm h1
    exact ⟨n, r, false, rfl, hR, hG, ⟨by omega, h3⟩, fun _ => rfl, fun h => by cases h⟩
theorem get_any (s : Nat) (S : Int) (hS : S = s) (hs8 : s ≤ 8) (g : Nat) (l : List UInt8) (b : Bool) (w0 w : World) (h : RB w0 w g l b) (hb : Below w0.heap.size w0 w) :
    Calls Tryd.prog 98 #[.pointer (some ⟨g, 0, none⟩), .int .i64 S] w fun e w' => ∃ (m : Nat) (l' : List UInt8) (b' : Bool), e = .returned (.int .u64 (m : Int)) ∧ RB w0 w' g l' b' ∧ w.grownBy w' (some g) ∧ (l'.length ≤ l.length ∧ m < 256 ^ s) ∧ ((b' = false → b = false ∧ number s l = some (m, l')) ∧ (b' = true → b = true ∨ number s l = none)) := by
  by_cases hbad : b = true ∨ l.length < s
  · refine (NM s S hS g l b w0 w h hbad).mono ?_
    rintro e w1 ⟨rfl, hR, hG⟩
    refine ⟨0, l, true, rfl, hR, hG, ⟨Nat.le_refl _, Nat.pow_pos (by decide)⟩, fun h => (by cases h), fun _ => ?_⟩
    rcases hbad with h | h
    · exact .inl h
    · exact .inr (by unfold number; rw [if_pos h])
  · have hb0 : b = false := by
      cases b with
      | false => rfl
      | true => exact absurd (.inl rfl) hbad
    subst hb0
    have hsl : s ≤ l.length := by omega
    refine (vG s S hS hs8 g l w0 w h hb hsl).mono ?_
    rintro e w1 ⟨rfl, hR, hG⟩
    refine ⟨_, _, false, rfl, hR, hG, ⟨by rw [List.length_drop]; omega, ?_⟩, fun _ => ⟨rfl, by unfold number; rw [if_neg (by omega)]⟩, fun h => by cases h⟩
    have h1 := rJ (l.take s)
    rwa [List.length_take, Nat.min_eq_left hsl] at h1
theorem RN : (Tryd.prog.info? 139).map (fun i => (i.zero, i.size, i.bytes)) = some (some (.agg #[.slice none 0 0, .int .i64 0]), k139.sz, 32) := by kernel_rfl
def RFx (w : World) (base : Nat) (v : Value) (xs : List jO) : Prop := Kd.R k139 139 w base (fun _ => True) v xs
set_option maxRecDepth 20000 in
set_option maxHeartbeats 8000000 in
theorem xZ (g : Nat) (l : List UInt8) (b : Bool) (w0 w : World) (h : RB w0 w g l b) (hb : Below w0.heap.size w0 w) (hg : w0.heap.size ≤ g) (hm : (l.length : Int) ≤ 100000) :
    Calls Tryd.prog 100 #[.pointer (some ⟨g, 0, none⟩)] w (RP (if b = true then none else lM l) (fun xs v w' => RFx w' w.heap.size v xs) w0 w g l.length) := by
  have hlt := h.lt
  by_cases hbad : b = true ∨ many 4 9 l = none
  · have hres : (if b = true then none else lM l) = none := by
      rcases hbad with h | h
      · rw [if_pos h]
      · split
        · rfl
        · unfold lM; rw [h]; rfl
    rw [hres]
    have hcall := oW 4 9 4 9 rfl rfl (by omega) (by omega) g l b w0 w h hb hbad
    clear hres hbad h hb
    go_enter Tryd.func100, Tryd.ntmps100
    go_wp2_with fail
    go_at_call 101
    refine hcall.mono ?_
    rintro e w1 ⟨rfl, ⟨r, hr, hR⟩, hG⟩
    have HR := iC.mk hR
    have HG := iC.mk hG
    clear hcall hR hG
    go_wp2
    go_loopw [3, 5] (fun v i wr => v = .slice none 0 0 ∧ i = .int .i64 0 ∧ wr = w1) (fun _ _ _ => 0)
    case atStart => exact ⟨rfl, rfl, rfl⟩
    case round =>
      obtain ⟨rfl, rfl, rfl⟩ := hrel
      go_wp2
      go_ret
      exact ⟨HG.out, [], _, rfl, Kd.R_nil _ _ _ _ _, .inr ⟨rfl, r, hr, HR.out⟩⟩
  · have hb0 : b = false := by
      cases b with
      | false => rfl
      | true => exact absurd (.inl rfl) hbad
    subst hb0
    rw [if_neg (by decide)]
    cases hmy : many 4 9 l with
    | none => exact absurd (.inr hmy) hbad
    | some x =>
      obtain ⟨n, r0⟩ := x
      have hn := QM hmy
      have hcall := uO 4 9 4 9 rfl rfl (by omega) (by omega) g l r0 n w0 w h hb hmy
      obtain ⟨hl1, hl2⟩ := lC hmy (by omega)
      have HN := iC.mk hn
      have HB := iC.mk hb
      have hr1 : (r0.length : Int) ≤ 100000 := by omega
      have HRL := iC.mk (show r0.length ≤ l.length by omega)
      have hnI : (n : Int) ≤ 100000 := by omega
      clear hmy hn hl1 hl2 hbad h hb hm
      go_enter Tryd.func100, Tryd.ntmps100
      go_wp2_with fail
      go_at_call 101
      refine hcall.mono ?_
      rintro e w1 ⟨rfl, hR, hG⟩
      have HR := iC.mk hR
      have HG := iC.mk hG
      clear hcall hR hG
      go_wp2
      go_loopw [3, 5] (fun v i wr => ∃ (k : Nat) (done : List jO) (r : List UInt8) (b : Bool), k ≤ n ∧ i = .int .i64 k ∧ iC (r.length ≤ r0.length ∧ done.length = k) ∧ iC ((b = false → Left oD n k r0 r done) ∧ (b = true → repP oD n r0 = none)) ∧ iC (RB w0 wr g r b) ∧ iC (RFx wr w.heap.size v done) ∧ iC (w.grownBy wr (some g))) (fun _ i _ => n - (intOf i).toNat)
      case atStart => exact ⟨0, [], r0, false, Nat.zero_le _, rfl, ⟨Nat.le_refl _, rfl⟩, ⟨fun _ => Left.start _ _ _, fun h => by cases h⟩, HR, ⟨Kd.R_nil _ _ _ _ _⟩, HG⟩
      case round =>
        obtain ⟨k, done, r, b, hk, rfl, HLN, HL, HRd, HOk, HGk⟩ := hrel
        clear HR HG
        obtain ⟨Av, cv, rfl⟩ := Kd.R_slice HOk.out
        obtain ⟨A1, c1, hblk, _, _⟩ := HRd.out
        have z1 : wr.cell? ⟨g, 1, none⟩ = some (.bool b) := (iE hblk 1).trans rfl
        clear hblk
        by_cases hkn : k < n
        · cases b with
          | true =>
            go_wp2
            go_ret
            exact ⟨HGk.out, done, _, rfl, HOk.out, .inr ⟨by rw [HN.out]; exact HL.out.2 (by first | rfl | trivial), r, by have h1 := HLN.out; have h2 := HRL.out; omega, HRd.out⟩⟩
          | false =>
            obtain ⟨wo, rfl⟩ : ∃ x : World, x = wr := ⟨_, rfl⟩
            have hLf := HL.out.1 rfl
            have HLf := iC.mk hLf
            obtain ⟨W1, hW1⟩ : ∃ W1, W1 = wo.alloc (.cells #[.slice none 0 0, .int .i64 0] 139) := ⟨_, rfl⟩
            have hba : Below wo.heap.size wo W1 := by rw [hW1]; exact iF (Below.refl _ _) _
            have BF1 := iC.mk (show W1.heap[wo.heap.size]? = some (.cells #[.slice none 0 0, .int .i64 0] 139 (0, 0)) from by rw [hW1]; exact iT rfl)
            have HR1 := iC.mk (RB.grown HRd.out (grown_below (row := none) hba) (by simp))
            have HO1 := iC.mk (Kd.R_below (Kd.R_elderB HOk.out wo.heap.size (Nat.le_refl _)) hba)
            have HG1 := iC.mk (iR HGk.out (grown_below hba))
            have HGE := iC.mk (show w.heap.size ≤ wo.heap.size from HGk.out.size)
            have hcall := zB 1 4 1 4 rfl rfl (by omega) (by omega) g r w0 W1 HR1.out (below_grown HB.out HG1.out hg (Nat.le_refl _))
            have HW1 := iC.mk hW1
            clear hLf hba hW1 HRd HOk HGk HL
            go_wp2_with fail
            rw [← HW1.out]
            clear HW1
            go_at_call 101
            refine hcall.mono ?_
            rintro e w2 ⟨kk, r1, b1, rfl, hR, hG, hlen, hst⟩
            have BF2 := iC.mk ((hG.block wo.heap.size (iZ BF1.out) (by intro e; injection e with e; have := HGE.out; omega)).trans BF1.out)
            have HO2 := iC.mk (Kd.R_mono (ok' := fun k => some k ≠ (Value.slice none 0 0).ownBlock ∧ k ≠ wo.heap.size) (jM HO1.out hG hlt) (fun k hk => ⟨by simp [Value.ownBlock], hk.2⟩))
            have HR2 := iC.mk hR
            have HG2 := iC.mk (iR HG1.out hG)
            have HLE := iC.mk hlen
            have HST := iC.mk hst
            have hkI : (kk : Int) ≤ 100000 := by have := HLN.out; omega
            clear hcall hR hG hlen hst BF1 HO1 HR1 HG1
            go_wp2
            go_loopw [8] (fun i wi => ∃ (j : Nat) (keys : List Int) (rj : List UInt8) (u : Value), j ≤ kk ∧ i = .int .i64 j ∧ iC (rj.length ≤ r1.length ∧ keys.length = j) ∧ iC (b1 = false → Left (intP 4) kk j r1 rj keys ∧ (kk - j) * 4 ≤ rj.length) ∧ iC (RB w0 wi g rj b1) ∧ iC (Kd.R (Kd.int .i64) 3 wi w.heap.size (fun _ => True) u keys) ∧ iC (Kd.R k139 139 wi w.heap.size (fun k => some k ≠ u.ownBlock ∧ k ≠ wo.heap.size) (.slice Av done.length cv) done) ∧ iC (wi.heap[wo.heap.size]? = some (.cells #[u, .int .i64 0] 139 (0, 0))) ∧ iC (w.grownBy wi (some g))) (fun i _ => kk - (intOf i).toNat)
            case atStart => exact ⟨0, [], r1, .slice none 0 0, Nat.zero_le _, rfl, ⟨Nat.le_refl _, rfl⟩, ⟨fun _ => ⟨Left.start _ _ _, by have := HLE.out; omega⟩⟩, HR2, ⟨Kd.R_nil _ _ _ _ _⟩, HO2, BF2, HG2⟩
            case round =>
              obtain ⟨j, keys, rj, u, hj, rfl, HLJ, HSJ, HRj, HKj, HOj, BFj, HGj⟩ := hrel
              obtain ⟨Au, cu, rfl⟩ := Kd.R_slice HKj.out
              clear HR2 HO2 BF2 HG2
              by_cases hjk : j < kk
              · have hb1 : b1 = false := by
                  cases b1 with
                  | false => rfl
                  | true => have := (HST.out.2 rfl).1; omega
                subst hb1
                obtain ⟨hLj, hl4⟩ := HSJ.out rfl
                cases hp : intP 4 rj with
                | none => exact absurd (kU hp) (by omega)
                | some x =>
                  obtain ⟨x, r'⟩ := x
                  obtain ⟨hs1, hx, hr'⟩ := mD hp
                  have HN2 := iC.mk (Left.next hLj hjk hp)
                  have hsm := lX rj 4 (by omega)
                  have HLJ2 := iC.mk (show (r'.length ≤ r1.length ∧ keys.length + 1 = j + 1) ∧ (kk - (j + 1)) * 4 ≤ r'.length from by have h1 := HLJ.out; rw [hr', List.length_drop]; omega)
                  have hbd : Below wr.heap.size wr wr.drew := iH (Below.refl _ _)
                  have HRd := iC.mk (RB.grown HRj.out (grown_below (row := none) hbd) (by simp))
                  have HKd := iC.mk (Kd.R_drew HKj.out)
                  have HOd := iC.mk (Kd.R_drew HOj.out)
                  have BFd := iC.mk (kJ BFj.out)
                  have HGd := iC.mk (iR HGj.out (grown_below hbd))
                  have hcall := vG 4 4 rfl (by omega) g rj w0 wr.drew HRd.out (below_grown HB.out HGd.out hg (Nat.le_refl _)) hs1
                  rw [← hr'] at hcall
                  obtain ⟨m, hm1⟩ : ∃ m, m = numB (rj.take 4) := ⟨_, rfl⟩
                  rw [← hm1] at hcall hsm hx
                  subst hx
                  have hw64 := pY m (by omega)
                  clear hp hr' hm1 hs1 hLj hl4 hbd HRj HKj HOj BFj HGj HRd
                  go_wp2
                  refine uM (n := 9) (S := fun w' => w'.cell? ⟨wo.heap.size, 0, none⟩ = some (.slice Au keys.length cu)) (ds := [8]) #[false, false, false, false, false, false, false, false, false] (by kernel_rfl) rfl rfl ((iE BFd.out 0).trans rfl) (fun hHeld => ?_)
                  refine nJ (T := (true, [([], []), ([0], [0]), ([], []), ([2], [2]), ([3], [3]), ([4], [4]), ([1, 5, 3], [1, 5]), ([0, 1, 2, 3, 4, 5, 6], []), ([7, 6, 6, 0, 1, 2, 3, 4, 5, 6], [6, 7])])) (B := [0, 1, 0, 4, 12, 28, 63, 127, 255]) (by kernel_rfl) (by kernel_rfl) (fun HT_ HW_ => ?_)
                  refine jP (i := 0) (N := some 31) (v := ?_) (a' := ?_) #[true, false, false, false, false, false, false, false, false] rfl rfl (jC HT_.out (by kernel_rfl)) (fun _ _ _ h => h) (Or.inl ⟨by rfl, ?_⟩) ?_ ?_
                  rotate_left
                  · intro w'
                    go_simp
                    with_reducible rfl
                  rotate_left
                  · simp only [Act.put, List.setIfInBounds_toArray, List.set_cons_zero, List.set_cons_succ, iY, jB]
                    rfl
                  refine jP (i := 2) (N := some 33) (v := ?_) (a' := ?_) #[true, false, true, false, false, false, false, false, false] rfl rfl (jC HT_.out (by kernel_rfl)) (fun _ _ _ h => h) (Or.inl ⟨by rfl, ?_⟩) ?_ ?_
                  rotate_left
                  · intro w'
                    go_simp
                    with_reducible rfl
                  rotate_left
                  · simp only [Act.put, List.setIfInBounds_toArray, List.set_cons_zero, List.set_cons_succ, iY, jB]
                    rfl
                  refine yI (i := 1) (N := some 32) (v := ?_) (a' := ?_) #[true, true, true, false, false, false, false, false, false] rfl rfl (mY HT_.out HW_.out (by kernel_rfl)) (fun _ _ _ h => h) (Or.inl ⟨by rfl, ?_⟩) hHeld ?_ ?_
                  rotate_left
                  · intro w' s0
                    go_simp
                    with_reducible rfl
                  rotate_left
                  · simp only [Act.put, List.setIfInBounds_toArray, List.set_cons_zero, List.set_cons_succ, iY, jB]
                    rfl
                  refine one_ (i := 3) (N := some 34) #[true, true, true, true, false, false, false, false, false] rfl rfl (mJ HT_.out (by kernel_rfl)) (by decide) (fun K hK => ?_)
                  refine rE Tryd.func98 (by kernel_rfl) rfl #[.pointer (some ⟨g, 0, none⟩), .int .i64 4] (by rfl) rfl rfl (by simp only [List.map_toArray, List.map_cons, List.map_nil]; rfl) ?_
                  with_reducible refine (hcall).mono ?_
                  rintro e w3 ⟨rfl, hR3, hG3⟩
                  refine ⟨_, rfl, ?_⟩
                  have BF3 := iC.mk ((hG3.block wo.heap.size (iZ BFd.out) (by intro e; injection e with e; have := HGE.out; omega)).trans BFd.out)
                  have HO3 := iC.mk (jM HOd.out hG3 hlt)
                  have HK3 := iC.mk (jM HKd.out hG3 hlt)
                  have HR3 := iC.mk hR3
                  have HG3 := iC.mk (iR HGd.out hG3)
                  clear hR3 hG3
                  refine hK.out _ _ ((iE BF3.out 0).trans rfl) (fun hHeld => ?_)
                  clear hK K
                  refine lK (a' := ?_) ?_ ?_
                  rotate_left
                  · show Act.put _ (some 34) _ = _
                    simp only [Act.put, List.setIfInBounds_toArray, List.set_cons_zero, List.set_cons_succ, iY, jB]
                    rfl
                  refine jP (i := 4) (N := some 35) (v := ?_) (a' := ?_) #[true, true, true, true, true, false, false, false, false] rfl rfl (jC HT_.out (by kernel_rfl)) (fun _ _ _ h => h) (Or.inl ⟨by rfl, ?_⟩) ?_ ?_
                  rotate_left
                  · intro w'
                    go_simp
                    with_reducible rfl
                  rotate_left
                  · simp only [Act.put, List.setIfInBounds_toArray, List.set_cons_zero, List.set_cons_succ, iY, jB]
                    rfl
                  refine one_ (i := 5) (N := some 36) #[true, true, true, true, true, true, false, false, false] rfl rfl (mJ HT_.out (by kernel_rfl)) (by decide) (fun K hK => ?_)
                  refine kG (w1 := ?_) (v := ?_) (by rfl) rfl ?_ ?_
                  rotate_left 2
                  · go_simp
                    constructor
                    · rfl
                    · rfl
                  refine hK.out _ _ ((iE (kM BF3.out _) 0).trans rfl) (fun hHeld => ?_)
                  clear hK K
                  refine lK (a' := ?_) ?_ ?_
                  rotate_left
                  · show Act.put _ (some 36) _ = _
                    simp only [Act.put, List.setIfInBounds_toArray, List.set_cons_zero, List.set_cons_succ, iY, jB]
                    rfl
                  refine one_ (i := 6) (N := some 37) #[true, true, true, true, true, true, true, false, false] rfl rfl (mJ HT_.out (by kernel_rfl)) (by decide) (fun K hK => ?_)
                  refine Kd.R_append_step (Kd.int .i64) (w0 := w3) w.heap.size (by rfl) (.tmp 32) (.tmp 36) 23 3 (.int .i64 0) 8 rfl Tryd.underlying23 zK rfl (by decide) (by omega) (.slice Au keys.length cu) keys (m : Int) [.int .i64 (m : Int)] (fun _ => True) (fun _ => False) rfl rfl rfl (fun _ hk => hk.elim) (fun _ _ => trivial) HK3.out (Below.refl _ _) HG3.out.size (by have := HLJ.out; omega) ?_
                  intro v4 w4 ho hb4 hg4 hat
                  obtain ⟨A4, c4, rfl⟩ := Kd.R_slice ho
                  have hkl : (keys ++ [(m : Int)]).length = keys.length + 1 := by rw [List.length_append]; rfl
                  rw [hkl] at ho hat ⊢
                  clear hkl
                  have HK4 := iC.mk ho
                  have HO4 := iC.mk (Kd.R_after (ok := fun k => k ≠ wo.heap.size) (Kd.R_mono HO3.out (fun _ hk => ⟨hk.2, hk.1⟩)) hg4 hat)
                  have BF4 := iC.mk (NH (g := wo.heap.size) BF3.out hg4 (Kd.R_ne HK3.out BF3.out (by decide)))
                  have HR4 := iC.mk (RB.grown HR3.out hg4 (by intro e; have := Kd.R_base HK3.out g e.symm; omega))
                  have HG4 := iC.mk (oM HG3.out hg4 (fun b e => Kd.R_base HK3.out b e))
                  have hs4 : w4.cell? ⟨wo.heap.size, 0, none⟩ = some (.slice Au keys.length cu) := (iE BF4.out 0).trans rfl
                  have hf4 := iD BF4.out 0
                  clear ho hb4 hg4 hat HO3 HR3 HG3
                  refine hK.out _ _ ((iE BF4.out 0).trans rfl) (fun hHeld => ?_)
                  clear hK K
                  refine lK (a' := ?_) ?_ ?_
                  rotate_left
                  · show Act.put _ (some 37) _ = _
                    simp only [Act.put, List.setIfInBounds_toArray, List.set_cons_zero, List.set_cons_succ, iY, jB]
                    rfl
                  refine jP (i := 7) (N := some 38) (v := ?_) (a' := ?_) #[true, true, true, true, true, true, true, true, false] rfl rfl (jC HT_.out (by kernel_rfl)) (fun _ _ _ h => h) (Or.inl ⟨by rfl, ?_⟩) ?_ ?_
                  rotate_left
                  · intro w'
                    go_simp
                    with_reducible rfl
                  rotate_left
                  · simp only [Act.put, List.setIfInBounds_toArray, List.set_cons_zero, List.set_cons_succ, iY, jB]
                    rfl
                  refine UT (i := 8) (N := none) #[true, true, true, true, true, true, true, true, true] rfl rfl (mJ HT_.out (by kernel_rfl)) (by decide) (fun K hK => ?_)
                  refine UF (w1 := ?_) (by rfl) rfl ?_ ?_
                  rotate_left
                  · go_simp
                    rfl
                  refine hK.out _ _ ?_
                  clear hK K
                  refine I9 (qB HT_.out (by kernel_rfl)) ?_
                  go_wp2
                  go_roundw
                  case rel => exact ⟨j + 1, keys ++ [(m : Int)], r', _, by omega, by go_num, ⟨HLJ2.out.1.1, by rw [List.length_append]; exact HLJ2.out.1.2⟩, ⟨fun _ => ⟨HN2.out, HLJ2.out.2⟩⟩, ⟨RB.grown HR4.out (kF _ _ _ _) (by intro e; injection e with e; have := HGE.out; omega)⟩, ⟨Kd.R_mono (Kd.R_far (p := ⟨wo.heap.size, 0, none⟩) (Kd.R_types HK4.out BF4.out (by decide)) (fun _ hk => hk.2) _) (fun _ _ => trivial)⟩, ⟨Kd.R_mono (Kd.R_far (p := ⟨wo.heap.size, 0, none⟩) HO4.out (fun _ hk => hk.1) _) (fun _ hk => ⟨hk.2, hk.1⟩)⟩, ⟨lZ (cs := #[.slice Au keys.length cu, .int .i64 0]) BF4.out 0 _ rfl⟩, ⟨jU HG4.out (kF _ _ _ _) HGE.out⟩⟩
                  case measure => simp [intOf]; omega
              · obtain rfl : j = kk := by omega
                have HPJ := iC.mk HKj.out.1
                have hcall := get_any 8 8 rfl (by omega) g rj b1 w0 wr HRj.out (below_grown HB.out HGj.out hg (Nat.le_refl _))
                obtain ⟨wi, rfl⟩ : ∃ x : World, x = wr := ⟨_, rfl⟩
                go_wp2_with fail
                go_at_call 98
                refine hcall.mono ?_
                rintro e w3 ⟨m, r3, b3, rfl, hR3, hG3, hlen3, hst3⟩
                have BF3 := iC.mk ((hG3.block wo.heap.size (iZ BFj.out) (by intro e; injection e with e; have := HGE.out; omega)).trans BFj.out)
                have HO3 := iC.mk (jM HOj.out hG3 hlt)
                have HK3 := iC.mk (jM HKj.out hG3 hlt)
                have HR3 := iC.mk hR3
                have HG3 := iC.mk (iR HGj.out hG3)
                have hw64 := L8 m (by have h8 := hlen3.2; rw [show (256 : Nat) ^ 8 = 18446744073709551616 from by decide] at h8; exact h8)
                have HL3 := iC.mk hlen3.1
                have HS3 := iC.mk hst3
                clear hcall hR3 hG3 hlen3 hst3 HRj HKj HOj BFj HGj HPJ
                obtain ⟨V, hV⟩ : ∃ V, V = s64 m := ⟨_, rfl⟩
                rw [← hV] at hw64
                have HV := iC.mk hV
                clear hV
                have hs3 : w3.cell? ⟨wo.heap.size, 1, none⟩ = some (.int .i64 0) := (iE BF3.out 1).trans rfl
                have hf3 := iD BF3.out 1
                have BF4 := iC.mk (show (w3.setCell ⟨wo.heap.size, 1, none⟩ (.int .i64 V)).heap[wo.heap.size]? = some (.cells #[.slice Au keys.length cu, .int .i64 V] 139 (0, 0)) from lZ BF3.out 1 _ rfl)
                have HO4 := iC.mk (Kd.R_far (p := ⟨wo.heap.size, 1, none⟩) HO3.out (fun _ hk => hk.2) (.int .i64 V))
                have HK4 := iC.mk (Kd.R_far (p := ⟨wo.heap.size, 1, none⟩) (Kd.R_types HK3.out BF3.out (by decide)) (fun _ hk => hk.2) (.int .i64 V))
                have HR4 := iC.mk (RB.grown HR3.out (kF w3 wo.heap.size 1 (.int .i64 V)) (by intro e; injection e with e; have := HGE.out; omega))
                have HG4 := iC.mk (jU HG3.out (kF w3 wo.heap.size 1 (.int .i64 V)) HGE.out)
                have hc0 : (w3.setCell ⟨wo.heap.size, 1, none⟩ (.int .i64 V)).cell? ⟨wo.heap.size, 0, none⟩ = some (.slice Au keys.length cu) := (iE BF4.out 0).trans rfl
                have hc1 : (w3.setCell ⟨wo.heap.size, 1, none⟩ (.int .i64 V)).cell? ⟨wo.heap.size, 1, none⟩ = some (.int .i64 V) := (iE BF4.out 1).trans rfl
                clear HO3 HK3 HR3 HG3
                go_upto_region 13 with fail
                obtain ⟨w4, hw4⟩ : ∃ w4, w4 = w3.setCell ⟨wo.heap.size, 1, none⟩ (.int .i64 V) := ⟨_, rfl⟩
                rw [← hw4] at BF4 HO4 HK4 HR4 HG4 hc0 hc1 ⊢
                clear hw4 hs3 hf3 hw64
                go_wp2_with (at_builtin; go_loud (refine Kd.R_append k139 (w0 := w4) w.heap.size rfl (.tmp 43) (.tmp 45) 24 139 (.agg #[.slice none 0 0, .int .i64 0]) 32 rfl Tryd.underlying24 RN rfl (by decide) (by omega) (.slice Av done.length cv) done ⟨keys, V⟩ [.slice Au keys.length cu, .int .i64 V] (fun k => k ≠ wo.heap.size) (fun k => some k = (Value.slice Au keys.length cu).ownBlock) rfl rfl ?aP ?aK ?aF ?aO (Below.refl _ _) HG4.out.size ?aL ?_; (case aP => exact LC _ _ _ (⟨keys, V⟩ : jO) (Kd.R_mono (Kd.R_tight rfl HK4.out) (fun _ h_ => h_))); (case aK => exact fun k h => ⟨(HK4.out.1 k h.symm).2, fun e => (HO4.out.1 k e.symm).1 h⟩); (case aF => exact Kd.freshB BF4.out); (case aO => exact Kd.R_mono HO4.out (fun _ hk => hk.2)); (case aL => (have := HLN.out; omega)); intro v5 w5 ho hb5 hg5 hat; have HO5 := iC.mk ho; have HR5 := iC.mk (RB.grown HR4.out hg5 (by intro e; have := Kd.R_base HO4.out g e.symm; omega)); have HG5 := iC.mk (oM HG4.out hg5 (fun b e => Kd.R_base HO4.out b e)); clear ho hb5 hg5 hat))
                go_roundw
                case rel =>
                  refine ⟨k + 1, done ++ [⟨keys, V⟩], r3, b3, by omega, by go_num, ⟨by have h1 := HLN.out; have h2 := HLE.out; have h3 := HL3.out; have h4 := HLJ.out; omega, by rw [List.length_append, HLN.out.2]; rfl⟩, ⟨fun h => ?_, fun h => ?_⟩, HR5, ⟨Kd.R_mono HO5.out (fun _ _ => trivial)⟩, HG5⟩
                  · obtain ⟨e1, e2⟩ := HS3.out.1 h
                    have h1 := HST.out.1 e1
                    have h2 := Left.done (HSJ.out e1).1
                    rw [HV.out]
                    exact Left.next HLf.out hkn (xO h1 h2 e2)
                  · refine Left.fail HLf.out hkn ?_
                    cases b1 with
                    | true =>
                      have h1 := (HST.out.2 rfl).2
                      unfold oD
                      rw [h1]
                      rfl
                    | false =>
                      have h1 := HST.out.1 rfl
                      have h2 := Left.done (HSJ.out rfl).1
                      rcases HS3.out.2 h with e | e
                      · cases e
                      · unfold oD
                        rw [h1]
                        simp only [Option.bind_some]
                        rw [h2]
                        simp only [Option.bind_some]
                        rw [e]
                        rfl
                case measure => simp [intOf]; omega
        · obtain rfl : k = n := by omega
          go_wp2
          go_ret
          cases b with
          | true => exact ⟨HGk.out, done, _, rfl, HOk.out, .inr ⟨by rw [HN.out]; exact HL.out.2 rfl, r, by have h1 := HLN.out; have h2 := HRL.out; omega, HRd.out⟩⟩
          | false => exact ⟨HGk.out, done, _, rfl, HOk.out, .inl ⟨r, by rw [HN.out]; exact Left.done (HL.out.1 rfl), by have h1 := HLN.out; have h2 := HRL.out; omega, HRd.out⟩⟩
end Go.Proofs.YtgfkgppomaapiaaDoor.K
end

section
namespace Go.Proofs.YtgfkgppomaapiaaDoor.K
open RowKit YtgfkgppomaapiaaDoorW.PrintWords YtgfkgppomaapiaaDoorW.PrintLast YtgfkgppomaapiaaDoorW.PrintMore My
theorem MX {l r0 : List UInt8} {n : Nat} (h : many 4 8 l = some (n, r0)) : kL l = repP lL n r0 := by unfold kL; rw [h]; rfl
theorem TY : (Tryd.prog.info? 86).map (fun i => (i.zero, i.size, i.bytes)) = some (some (.agg #[.int .u32 0, .slice none 0 0]), k86.sz, 32) := by kernel_rfl
def REx (w : World) (base : Nat) (v : Value) (xs : List jE) : Prop := Kd.R k86 86 w base (fun _ => True) v xs
set_option maxRecDepth 20000 in
set_option maxHeartbeats 8000000 in
theorem zT (g : Nat) (l : List UInt8) (b : Bool) (w0 w : World) (h : RB w0 w g l b) (hb : Below w0.heap.size w0 w) (hg : w0.heap.size ≤ g) (hm : (l.length : Int) ≤ 100000) :
    Calls Tryd.prog 102 #[.pointer (some ⟨g, 0, none⟩)] w (RP (if b = true then none else kL l) (fun xs v w' => REx w' w.heap.size v xs) w0 w g l.length) := by
  have hlt := h.lt
  by_cases hbad : b = true ∨ many 4 8 l = none
  · have hres : (if b = true then none else kL l) = none := by
      rcases hbad with h | h
      · rw [if_pos h]
      · split
        · rfl
        · unfold kL; rw [h]; rfl
    rw [hres]
    have hcall := oW 4 8 4 8 rfl rfl (by omega) (by omega) g l b w0 w h hb hbad
    clear hres hbad h hb
    go_enter Tryd.func102, Tryd.ntmps102
    go_wp2_with fail
    go_at_call 101
    refine hcall.mono ?_
    rintro e w1 ⟨rfl, ⟨r, hr, hR⟩, hG⟩
    have HR := iC.mk hR
    have HG := iC.mk hG
    clear hcall hR hG
    go_wp2
    go_loopw [3, 5] (fun v i wr => v = .slice none 0 0 ∧ i = .int .i64 0 ∧ wr = w1) (fun _ _ _ => 0)
    case atStart => exact ⟨rfl, rfl, rfl⟩
    case round =>
      obtain ⟨rfl, rfl, rfl⟩ := hrel
      go_wp2
      go_ret
      exact ⟨HG.out, [], _, rfl, Kd.R_nil _ _ _ _ _, .inr ⟨rfl, r, hr, HR.out⟩⟩
  · have hb0 : b = false := by
      cases b with
      | false => rfl
      | true => exact absurd (.inl rfl) hbad
    subst hb0
    rw [if_neg (by decide)]
    cases hmy : many 4 8 l with
    | none => exact absurd (.inr hmy) hbad
    | some x =>
      obtain ⟨n, r0⟩ := x
      have hn := MX hmy
      have hcall := uO 4 8 4 8 rfl rfl (by omega) (by omega) g l r0 n w0 w h hb hmy
      obtain ⟨hl1, hl2⟩ := lC hmy (by omega)
      have HN := iC.mk hn
      have HB := iC.mk hb
      have hr1 : (r0.length : Int) ≤ 100000 := by omega
      have HRL := iC.mk (show r0.length ≤ l.length by omega)
      have hnI : (n : Int) ≤ 100000 := by omega
      clear hmy hn hl1 hl2 hbad h hb hm
      go_enter Tryd.func102, Tryd.ntmps102
      go_wp2_with fail
      go_at_call 101
      refine hcall.mono ?_
      rintro e w1 ⟨rfl, hR, hG⟩
      have HR := iC.mk hR
      have HG := iC.mk hG
      clear hcall hR hG
      go_wp2
      go_loopw [3, 5] (fun v i wr => ∃ (k : Nat) (done : List jE) (r : List UInt8) (b : Bool), k ≤ n ∧ i = .int .i64 k ∧ iC (r.length ≤ r0.length ∧ done.length = k) ∧ iC ((b = false → Left lL n k r0 r done) ∧ (b = true → repP lL n r0 = none)) ∧ iC (RB w0 wr g r b) ∧ iC (REx wr w.heap.size v done) ∧ iC (w.grownBy wr (some g))) (fun _ i _ => n - (intOf i).toNat)
      case atStart => exact ⟨0, [], r0, false, Nat.zero_le _, rfl, ⟨Nat.le_refl _, rfl⟩, ⟨fun _ => Left.start _ _ _, fun h => by cases h⟩, HR, ⟨Kd.R_nil _ _ _ _ _⟩, HG⟩
      case round =>
        obtain ⟨k, done, r, b, hk, rfl, HLN, HL, HRd, HOk, HGk⟩ := hrel
        clear HR HG
        obtain ⟨Av, cv, rfl⟩ := Kd.R_slice HOk.out
        obtain ⟨A1, c1, hblk, _, _⟩ := HRd.out
        have z1 : wr.cell? ⟨g, 1, none⟩ = some (.bool b) := (iE hblk 1).trans rfl
        clear hblk
        by_cases hkn : k < n
        · cases b with
          | true =>
            go_wp2
            go_ret
            exact ⟨HGk.out, done, _, rfl, HOk.out, .inr ⟨by rw [HN.out]; exact HL.out.2 (by first | rfl | trivial), r, by have h1 := HLN.out; have h2 := HRL.out; omega, HRd.out⟩⟩
          | false =>
            have hLf := HL.out.1 rfl
            have HLf := iC.mk hLf
            obtain ⟨wo, rfl⟩ : ∃ x : World, x = wr := ⟨_, rfl⟩
            obtain ⟨W1, hW1⟩ : ∃ W1, W1 = wo.alloc (.cells #[.int .u32 0, .slice none 0 0] 86) := ⟨_, rfl⟩
            have hba : Below wo.heap.size wo W1 := by rw [hW1]; exact iF (Below.refl _ _) _
            have BF1 := iC.mk (show W1.heap[wo.heap.size]? = some (.cells #[.int .u32 0, .slice none 0 0] 86 (0, 0)) from by rw [hW1]; exact iT rfl)
            have HR1 := iC.mk (RB.grown HRd.out (grown_below (row := none) hba) (by simp))
            have HO1 := iC.mk (Kd.R_below (Kd.R_elderB HOk.out wo.heap.size (Nat.le_refl _)) hba)
            have HG1 := iC.mk (iR HGk.out (grown_below hba))
            have HGE := iC.mk (show w.heap.size ≤ wo.heap.size from HGk.out.size)
            have hgw : g ≠ wo.heap.size := by have := HGE.out; omega
            have HGW := iC.mk hgw
            have hcall := get_any 4 4 rfl (by omega) g r false w0 W1 HR1.out (below_grown HB.out HG1.out hg (Nat.le_refl _))
            have HW1 := iC.mk hW1
            clear hLf hba hW1 HRd HOk HGk HL hgw
            go_wp2_with fail
            rw [← HW1.out]
            clear HW1
            go_at_call 98
            refine hcall.mono ?_
            rintro e w2 ⟨m, r1, b1, rfl, hR, hG, hlen, hst⟩
            have BF2 := iC.mk ((hG.block wo.heap.size (iZ BF1.out) (by intro e; injection e with e; exact HGW.out e.symm)).trans BF1.out)
            have HO2 := iC.mk (jM HO1.out hG hlt)
            have HR2 := iC.mk hR
            have HG2 := iC.mk (iR HG1.out hG)
            have hmb : (m : Int) < 4294967296 := by have h8 := hlen.2; rw [show (256 : Nat) ^ 4 = 4294967296 from by decide] at h8; omega
            have hwu : IntKind.u32.wrap (m : Int) = (m : Int) := by rw [show IntKind.u32.wrap (m : Int) = (m : Int) % 4294967296 by simp [IntKind.wrap, IntKind.bits, IntKind.signed]]; omega
            have HL1 := iC.mk hlen.1
            have HS1 := iC.mk hst
            have hs2 : w2.cell? ⟨wo.heap.size, 0, none⟩ = some (.int .u32 0) := (iE BF2.out 0).trans rfl
            have hf2 := iD BF2.out 0
            have BF3 := iC.mk (show (w2.setCell ⟨wo.heap.size, 0, none⟩ (.int .u32 (m : Int))).heap[wo.heap.size]? = some (.cells #[.int .u32 (m : Int), .slice none 0 0] 86 (0, 0)) from lZ BF2.out 0 _ rfl)
            have HO3 := iC.mk (Kd.R_far (p := ⟨wo.heap.size, 0, none⟩) HO2.out (fun _ hk => hk.2) (.int .u32 (m : Int)))
            have HR3 := iC.mk (RB.grown HR2.out (kF w2 wo.heap.size 0 (.int .u32 (m : Int))) (by intro e; injection e with e; exact HGW.out e))
            have HG3 := iC.mk (jU HG2.out (kF w2 wo.heap.size 0 (.int .u32 (m : Int))) HGE.out)
            clear hcall hR hG hlen hst BF1 HO1 HR1 HG1
            go_upto_region 8 with fail
            obtain ⟨w3, hw3⟩ : ∃ w3, w3 = w2.setCell ⟨wo.heap.size, 0, none⟩ (.int .u32 (m : Int)) := ⟨_, rfl⟩
            rw [← hw3] at BF3 HO3 HR3 HG3 ⊢
            clear hw3 hs2 hf2 BF2 HO2 HR2 HG2
            have hcall := xZ g r1 b1 w0 w3 HR3.out (below_grown HB.out HG3.out hg (Nat.le_refl _)) (Nat.le_trans hg (Nat.le_refl _)) (by have h1 := HL1.out; have h2 := HLN.out; omega)
            go_wp2_with fail
            go_at_call 100
            refine hcall.mono ?_
            rintro e w4 ⟨hG, fs, vf, rfl, hF, hres⟩
            have hF : Kd.R k139 139 w4 w3.heap.size (fun _ => True) vf fs := hF
            have hst4 : ∃ r2 b2, RB w0 w4 g r2 b2 ∧ r2.length ≤ r1.length ∧ (b2 = false → lL r = some (⟨(m : Int), fs⟩, r2)) ∧ (b2 = true → lL r = none) := by
              rcases hres with ⟨l', h1, h2, h3⟩ | ⟨h1, l', h2, h3⟩
              · refine ⟨l', false, h3, h2, fun _ => ?_, fun h => by cases h⟩
                cases b1 with
                | true => rw [if_pos rfl] at h1; cases h1
                | false =>
                  rw [if_neg (by decide)] at h1
                  have e1 := (HS1.out.1 rfl).2
                  unfold lL intP
                  rw [e1]
                  simp only [Option.bind_some]
                  rw [h1]
                  rfl
              · refine ⟨l', true, h3, h2, fun h => (by cases h), fun _ => ?_⟩
                cases b1 with
                | true =>
                  rcases HS1.out.2 rfl with e | e
                  · cases e
                  · unfold lL intP
                    rw [e]
                    rfl
                | false =>
                  rw [if_neg (by decide)] at h1
                  have e1 := (HS1.out.1 rfl).2
                  unfold lL intP
                  rw [e1]
                  simp only [Option.bind_some]
                  rw [h1]
                  rfl
            obtain ⟨r2, b2, hR, hlen, hst⟩ := hst4
            have hown : ∀ k, w3.heap.size ≤ k → k ≠ wo.heap.size ∧ some k ≠ (Value.slice Av done.length cv).ownBlock := fun k hk => ⟨fun e => by have := iZ BF3.out; omega, fun e => by have := ((Kd.R_bound HO3.out).1 k e.symm).2.2.1; omega⟩
            have HOW := iC.mk hown
            have BF4 := iC.mk ((hG.block wo.heap.size (iZ BF3.out) (by intro e; injection e with e; exact HGW.out e.symm)).trans BF3.out)
            have HO4 := iC.mk (jM HO3.out hG hlt)
            have HR4 := iC.mk hR
            have HG4 := iC.mk (iR HG3.out hG)
            have HF4 := iC.mk (Kd.R_lower (Kd.R_mono (ok' := fun k => k ≠ wo.heap.size ∧ some k ≠ (Value.slice Av done.length cv).ownBlock) (Kd.R_bound hF) (fun k hk => HOW.out k hk.2.1)) HG3.out.size)
            obtain ⟨Af, cf, rfl⟩ := Kd.R_slice hF
            have HL2 := iC.mk hlen
            have HS2 := iC.mk hst
            clear hcall hR hG hlen hst hres hF hown BF3 HO3 HR3 HG3 HOW
            have hs4 : w4.cell? ⟨wo.heap.size, 1, none⟩ = some (.slice none 0 0) := (iE BF4.out 1).trans rfl
            have hf4 := iD BF4.out 1
            have BF5 := iC.mk (show (w4.setCell ⟨wo.heap.size, 1, none⟩ (.slice Af fs.length cf)).heap[wo.heap.size]? = some (.cells #[.int .u32 (m : Int), .slice Af fs.length cf] 86 (0, 0)) from lZ BF4.out 1 _ rfl)
            have HO5 := iC.mk (Kd.R_far (p := ⟨wo.heap.size, 1, none⟩) HO4.out (fun _ hk => hk.2) (.slice Af fs.length cf))
            have HF5 := iC.mk (Kd.R_far (p := ⟨wo.heap.size, 1, none⟩) HF4.out (fun _ hk => hk.1) (.slice Af fs.length cf))
            have HR5 := iC.mk (RB.grown HR4.out (kF w4 wo.heap.size 1 (.slice Af fs.length cf)) (by intro e; injection e with e; exact HGW.out e))
            have HG5 := iC.mk (jU HG4.out (kF w4 wo.heap.size 1 (.slice Af fs.length cf)) HGE.out)
            clear HO4 HF4 HR4 HG4
            go_upto_region 9 with fail
            obtain ⟨w5, hw5⟩ : ∃ w5, w5 = w4.setCell ⟨wo.heap.size, 1, none⟩ (.slice Af fs.length cf) := ⟨_, rfl⟩
            rw [← hw5] at BF5 HO5 HF5 HR5 HG5 ⊢
            clear hw5 hs4 hf4 BF4
            have hc0 : w5.cell? ⟨wo.heap.size, 0, none⟩ = some (.int .u32 (m : Int)) := (iE BF5.out 0).trans rfl
            have hc1 : w5.cell? ⟨wo.heap.size, 1, none⟩ = some (.slice Af fs.length cf) := (iE BF5.out 1).trans rfl
            go_wp2_with (at_builtin; go_loud (refine Kd.R_append k86 (w0 := w5) w.heap.size rfl (.tmp 29) (.tmp 31) 28 86 (.agg #[.int .u32 0, .slice none 0 0]) 32 rfl Tryd.underlying28 TY rfl (by decide) (by omega) (.slice Av done.length cv) done ⟨(m : Int), fs⟩ [.int .u32 (m : Int), .slice Af fs.length cf] (fun _ => True) (fun k => k ≠ wo.heap.size ∧ some k ≠ (Value.slice Av done.length cv).ownBlock) rfl rfl ?aP (fun _ h => ⟨trivial, h.2⟩) (fun _ _ => trivial) ?aO (Below.refl _ _) HG5.out.size ?aL ?_; (case aP => exact PE _ _ _ (⟨(m : Int), fs⟩ : jE) HF5.out); (case aO => exact Kd.R_mono HO5.out (fun _ _ => trivial)); (case aL => (have := HLN.out; omega)); intro v6 w6 ho hb6 hg6 hat; have HO6 := iC.mk ho; have HR6 := iC.mk (RB.grown HR5.out hg6 (by intro e; have := Kd.R_base HO5.out g e.symm; omega)); have HG6 := iC.mk (oM HG5.out hg6 (fun b e => Kd.R_base HO5.out b e)); clear ho hb6 hg6 hat))
            go_roundw
            case rel => exact ⟨k + 1, done ++ [(⟨(m : Int), fs⟩ : jE)], r2, b2, by omega, by go_num, ⟨by have h1 := HLN.out; have h2 := HL1.out; have h3 := HL2.out; omega, by rw [List.length_append, HLN.out.2]; rfl⟩, ⟨fun h => Left.next HLf.out hkn (HS2.out.1 h), fun h => Left.fail HLf.out hkn (HS2.out.2 h)⟩, HR6, ⟨HO6.out⟩, HG6⟩
            case measure => simp [intOf]; omega
        · obtain rfl : k = n := by omega
          go_wp2
          go_ret
          cases b with
          | true => exact ⟨HGk.out, done, _, rfl, HOk.out, .inr ⟨by rw [HN.out]; exact HL.out.2 rfl, r, by have h1 := HLN.out; have h2 := HRL.out; omega, HRd.out⟩⟩
          | false => exact ⟨HGk.out, done, _, rfl, HOk.out, .inl ⟨r, by rw [HN.out]; exact Left.done (HL.out.1 rfl), by have h1 := HLN.out; have h2 := HRL.out; omega, HRd.out⟩⟩
end Go.Proofs.YtgfkgppomaapiaaDoor.K
end

section
namespace Go.Proofs.YtgfkgppomaapiaaDoor.K
open RowKit YtgfkgppomaapiaaDoorW.PrintWords YtgfkgppomaapiaaDoorW.PrintLast YtgfkgppomaapiaaDoorW.PrintMore My
theorem zF {r : List UInt8} (h : intP 4 r = none) : lL r = none := by unfold lL; rw [h]; rfl
theorem yZ {r r1 : List UInt8} {x : Int} (h : intP 4 r = some (x, r1)) (h1 : lM r1 = none) : lL r = none := by unfold lL; rw [h]; simp only [Option.bind_some]; rw [h1]; rfl
theorem IB {r r1 r2 : List UInt8} {x : Int} {fs : List jO} (h : intP 4 r = some (x, r1)) (h1 : lM r1 = some (fs, r2)) : lL r = some (⟨x, fs⟩, r2) := by unfold lL; rw [h]; simp only [Option.bind_some]; rw [h1]; rfl
theorem qE : Short lM := fun l x r h => by
  unfold lM at h
  obtain ⟨⟨n, r1⟩, h1, h⟩ := Option.bind_eq_some_iff.1 h
  have a := (lC h1 (by omega)).1
  have b := oC MH n _ _ _ h
  simp only at a b
  omega
set_option maxRecDepth 20000 in
set_option maxHeartbeats 8000000 in
theorem uJ (g : Nat) (l : List UInt8) (w0 w : World) (h : Rd w0 w g l) (hb : Below w0.heap.size w0 w) (hg : w0.heap.size ≤ g) (hm : (l.length : Int) ≤ 100000) :
    Calls Tryd.prog 123 #[.pointer (some ⟨g, 0, none⟩)] w (PP (kL l) (fun xs v w' => Kd.R k86 86 w' w.heap.size (fun _ => True) v xs) w0 w g) := by
  have HR := iC.mk h
  have HB := iC.mk hb
  have hlt := h.lt
  clear h hb
  cases hmy : many 4 8 l with
  | none =>
    have hn : kL l = none := by unfold kL; rw [hmy]; rfl
    have hcall := o7 4 8 4 8 rfl rfl (by omega) (by omega) g l w0 w HR.out HB.out hg hmy
    have HN := iC.mk hn
    clear hmy hn
    go_enter Tryd.func123, Tryd.ntmps123
    go_wp2_with (go_at_call 130; refine hcall.mono ?_; rintro e w1 ⟨rfl, hG⟩)
    exact ⟨rfl, hG, .inr ⟨HN.out, rfl⟩⟩
  | some x =>
    obtain ⟨n, r0⟩ := x
    have hn : kL l = repP lL n r0 := by unfold kL; rw [hmy]; rfl
    have hcall := vT 4 8 4 8 rfl rfl (by omega) (by omega) g l r0 n w0 w HR.out HB.out hg hmy
    have HN := iC.mk hn
    obtain ⟨hl1, hl2⟩ := lC hmy (by omega)
    have hn1 : (n : Int) ≤ 100000 := by omega
    have hr0 : (r0.length : Int) ≤ 100000 := by omega
    have hmk := qP (t := 28) (e := 86) Tryd.underlying28 U3 (by omega) n hn1
    clear hmy hn hl1 hl2
    go_enter Tryd.func123, Tryd.ntmps123
    go_wp2_with (go_at_call 130; refine hcall.mono ?_; rintro e w1 ⟨rfl, hR, hG, hle⟩; clear hle; have HR1 := iC.mk hR; have HG1 := iC.mk hG; clear hR hG)
    have HO := iC.mk (NU (e := 86) (W := w1) (n := n) (base := w.heap.size) (x := .int .u32 0) (y := .slice none 0 0) rfl rfl (by omega) HG1.out.size)
    have HG := iC.mk (iR HG1.out (grown_below (iF (Below.refl _ _) (.cells (madeCells #[.int .u32 0, .slice none 0 0] (n * 2)) 86))))
    have HR2 := iC.mk (Rd.grown HR1.out (grown_below (row := none) (iF (Below.refl _ _) (.cells (madeCells #[.int .u32 0, .slice none 0 0] (n * 2)) 86))) (by simp))
    clear HR1 HG1 hcall hmk
    obtain ⟨ad, had⟩ : ∃ ad : Addr, ad = ⟨w1.heap.size, 0, none⟩ := ⟨_, rfl⟩
    rw [← had] at HO ⊢
    obtain ⟨W2, hW⟩ : ∃ W2, W2 = w1.alloc (.cells (madeCells #[.int .u32 0, .slice none 0 0] (n * 2)) 86) := ⟨_, rfl⟩
    rw [← hW] at HO HG HR2
    first | rw [← hW] | (rw [show w1.alloc (.cells (madeCells (Value.agg #[.int .u32 0, .slice none 0 0]).cells (n * 2)) 86) = W2 from hW.symm])
    clear hW had
    go_loopw [10] (fun i wr => ∃ (k : Nat) (done : List jE) (r : List UInt8) (rows : List (List Value)), k ≤ n ∧ i = .int .i64 k ∧ iC (Left lL n k r0 r done) ∧ (r.length : Int) ≤ 100000 ∧ iC (Rd w0 wr g r) ∧ iC (RW 86 wr w.heap.size (.slice (some ad) n n) rows) ∧ iC (rows.length = n) ∧ iC (lH k86 wr w.heap.size (fun b => b ≠ ad.block) done rows) ∧ iC (w.grownBy wr (some g))) (fun i _ => n - (intOf i).toNat)
    case atStart => exact ⟨0, [], r0, _, Nat.zero_le _, rfl, ⟨Left.start _ _ _⟩, hr0, HR2, HO, ⟨List.length_replicate⟩, ⟨fun j p c hj _ => by simp at hj⟩, HG⟩
    case round =>
      obtain ⟨k, done, r, rows, hk, rfl, HL, hrl, HRd, HOk, HLEN, HD, HGk⟩ := hrel
      clear HR2 HO HG
      by_cases hkn : k < n
      · cases hp : intP 4 r with
        | none =>
          have hcall := jT 4 4 rfl g r w0 wr HRd.out (kU hp)
          have HF := iC.mk (Left.fail HL.out hkn (zF hp))
          clear hp
          go_wp2_with (go_at_call 119; refine hcall.mono ?_; rintro e w2 ⟨rfl, hG⟩)
          exact ⟨rfl, iR HGk.out hG, .inr ⟨by rw [HN.out]; exact HF.out, rfl⟩⟩
        | some x =>
          obtain ⟨x, r1⟩ := x
          obtain ⟨hs1, hx, hr1⟩ := mD hp
          have hr1l := nN 4 _ _ _ hp
          have hr1I : (r1.length : Int) ≤ 100000 := by omega
          have hcall := lY 4 4 rfl (by omega) g r w0 wr HRd.out (below_grown HB.out HGk.out hg (Nat.le_refl _)) hs1
          have hsm := lX r 4 (by omega)
          rw [← hr1] at hcall
          obtain ⟨m, hm1⟩ : ∃ m, m = numB (r.take 4) := ⟨_, rfl⟩
          rw [← hm1] at hcall hsm hx
          subst hx
          have HP := iC.mk hp
          clear hr1 hm1 hs1 hp hr1l
          go_wp2_with fail
          refine hcall.mono ?_
          rintro e w2 ⟨rfl, hR, hG⟩
          obtain ⟨x0, y0, hrow, z0, z1, f0, f1, hbs, hbl, hset0, _⟩ := yF (jM HOk.out hG hlt) k hkn
          obtain ⟨hs0, hg0⟩ := hset0 (.int .u32 (m : Int)) rfl
          have HGR := iC.mk (jU (iR HGk.out hG) hg0 hbs)
          have HRR := iC.mk (Rd.grown hR hg0 (by (intro e; injection e with e; omega)))
          have HS0 := iC.mk hs0
          have HD0 := iC.mk ((lH.other (lH.grown HD.out hG hlt) hg0 (fun b hb => hb)).set (k := k) (by rw [HL.out.1]; exact Nat.le_refl _) [.int .u32 (m : Int), y0])
          clear hset0 hs0 hg0 hR hG hrow z1 f1 hcall
          go_wp2_with fail
          refine (rP g r1 w0 _ HRR.out (below_grown HB.out HGR.out hg (Nat.le_refl _)) hg hr1I).mono ?_
          intro e w3 hpp
          cases hp2 : lM r1 with
          | none =>
            obtain ⟨rfl, hG⟩ := hpp.short hp2
            have HF := iC.mk (Left.fail HL.out hkn (yZ HP.out hp2))
            clear hp2 hpp
            go_wp2
            exact ⟨rfl, iR HGR.out hG, .inr ⟨by rw [HN.out]; exact HF.out, rfl⟩⟩
          | some y =>
            obtain ⟨fs, r2⟩ := y
            obtain ⟨v, rfl, hv, hR, hG⟩ := hpp.ok hp2
            have HN1 := iC.mk (Left.next HL.out hkn (IB HP.out hp2))
            have hr2l := qE _ _ _ hp2
            have hr2I : (r2.length : Int) ≤ 100000 := by omega
            obtain ⟨x1, y1, hrow, z0', z1, f0', f1, hbs1, hbl1, _, hset1⟩ := yF (jM HS0.out hG hlt) k hkn
            rw [yS _ _ _ (by rw [HLEN.out]; exact hkn)] at hrow
            injection hrow with hrow1 hrow2
            subst hrow1
            obtain ⟨Av, cv, rfl⟩ := Kd.R_slice hv
            obtain ⟨hs1, hg1⟩ := hset1 (.slice Av fs.length cv) rfl
            rw [List.set_set] at hs1
            have hvb := Kd.R_lower (Kd.R_mono (Kd.R_bound hv) (ok' := fun b => b ≠ ad.block) (fun b hb => by have := hb.2.1; simp at this; omega)) (HGR.out.size)
            have hvb1 := Kd.R_grown hvb hg1 (fun b hb e => hb (by injection e))
            have hDk := (lH.other (lH.grown HD0.out hG hlt) hg1 (fun b hb => hb)).set (k := k) (by rw [HL.out.1]; exact Nat.le_refl _) [.int .u32 (m : Int), .slice Av fs.length cv]
            rw [List.set_set] at hDk
            have hDone := hDk.snoc (x := ⟨(m : Int), fs⟩) (c := [.int .u32 (m : Int), .slice Av fs.length cv]) (by rw [HL.out.1]; exact List.getElem?_set_self (by rw [HLEN.out]; exact hkn)) (PE _ _ _ ⟨(m : Int), fs⟩ hvb1)
            have HDONE := iC.mk hDone
            have HSV := iC.mk hs1
            have HGV := iC.mk (jU (iR HGR.out hG) hg1 hbs1)
            have HRV := iC.mk (Rd.grown hR hg1 (by (intro e; injection e with e; omega)))
            have HLEN2 := iC.mk (show (rows.set k [.int .u32 (m : Int), .slice Av fs.length cv]).length = n from by rw [List.length_set]; exact HLEN.out)
            clear hset1 hs1 hg1 hR hG hrow2 z0 f0 z0' f0' hv hvb hvb1 hDk hDone hpp hp2 hr2l
            go_wp2
            go_roundw
            case rel => exact ⟨k + 1, done ++ [⟨(m : Int), fs⟩], r2, _, by omega, by go_num, HN1, hr2I, HRV, HSV, HLEN2, HDONE, HGV⟩
            case measure => simp [intOf]; omega
      · obtain rfl : k = n := by omega
        go_wp2
        go_ret
        refine ⟨HGk.out, .inl ⟨done, r, _, by rw [HN.out]; exact Left.done HL.out, rfl, ?_, HRd.out⟩⟩
        refine yL rfl HOk.out (by rw [HL.out.1, HLEN.out]) (fun _ _ => trivial) (fun j p c hj hc => ?_)
        exact k86.M_mono (fun b hb => ⟨trivial, by simp [Value.ownBlock]; exact hb⟩) (HD.out j p c hj hc)
end Go.Proofs.YtgfkgppomaapiaaDoor.K
end

section
namespace Go.Proofs.YtgfkgppomaapiaaDoor.K
open RowKit YtgfkgppomaapiaaDoorW.PrintWords YtgfkgppomaapiaaDoorW.PrintLast YtgfkgppomaapiaaDoorW.PrintMore My
def IV (b : Bool) (w : World) (e : Ending) (w' : World) : Prop := ∃ r : Int, e = .returned (.int .i64 r) ∧ decide (0 ≤ r) = b ∧ Below w.heap.size w w'
theorem any_take_succ {α : Type} (p : α → Bool) (z : α) (l : List α) (k : Nat) (h : k < l.length) : (l.take (k + 1)).any p = ((l.take k).any p || p (l.getD k z)) := by
  rw [mO z l k h, List.any_append]
  simp
theorem IW {α : Type} (p : α → Bool) (z : α) (l : List α) (k : Nat) (h : k < l.length) (hp : p (l.getD k z) = true) : l.any p = true := by
  rw [List.any_eq_true]
  refine ⟨l.getD k z, ?_, hp⟩
  rw [List.getD_eq_getElem?_getD, List.getElem?_eq_getElem h]
  exact List.getElem_mem h
theorem yH {α : Type} (p : α → Bool) (l : List α) (h : (l.take l.length).any p = false) : l.any p = false := by rwa [List.take_length] at h
def badV (v : Int) : Bool := decide (v < 0) || decide (9999 < v)
set_option maxHeartbeats 400000 in
theorem L9 (v : Int) (w : World) : Calls Tryd.prog 118 #[.int .i64 v] w fun e w' => e = .returned (.bool (badV v)) ∧ w = w' := by
  by_cases h0 : v < 0
  · have e : badV v = true := by unfold badV; rw [decide_eq_true h0]; rfl
    rw [e]
    clear e
    go_enter Tryd.func118, Tryd.ntmps118
    go_wp2
    go_ret
    exact ⟨rfl, rfl⟩
  · by_cases h1 : 9999 < v
    · have e : badV v = true := by unfold badV; rw [decide_eq_true h1]; simp
      rw [e]
      clear e
      go_enter Tryd.func118, Tryd.ntmps118
      go_wp2
      go_ret
      exact ⟨rfl, rfl⟩
    · have e : badV v = false := by unfold badV; rw [decide_eq_false h0, decide_eq_false h1]; rfl
      rw [e]
      clear e
      go_enter Tryd.func118, Tryd.ntmps118
      go_wp2
      go_ret
      exact ⟨rfl, rfl⟩
set_option maxHeartbeats 1000000 in
theorem MJ (A : Option Addr) (c : Nat) (l : List Int) (w : World) (hr : Kd.C (Kd.int .i64) w A l.length l) :
    Calls Tryd.prog 129 #[.slice A l.length c, .func (.func 118) #[] #[]] w (IV (l.any badV) w) := by
  have hm := kQ hr
  have HR := iC.mk hr
  clear hr
  go_enter Tryd.func129, Tryd.ntmps129
  go_wp2
  go_loopg [5, 8] l.length (fun gg _ s8 wr => ∃ k : Nat, k ≤ l.length ∧ l.length - k ≤ gg ∧ s8 = .int .i64 k ∧ iC (w = wr) ∧ iC ((l.take k).any badV = false))
  case atStart => exact ⟨0, Nat.zero_le _, by omega, rfl, ⟨rfl⟩, ⟨rfl⟩⟩
  case round =>
    obtain ⟨k, hk, hg, rfl, HW, HA⟩ := hrel
    obtain rfl := HW.out
    by_cases hlt : k < l.length
    · obtain ⟨ad, rfl, hx⟩ := Kd.at_int HR.out (k : Int) (by omega) (by omega)
      have hsn := any_take_succ badV 0 l k hlt
      have hgd : rd l (k : Int) = l.getD k 0 := by unfold rd; rw [Int.toNat_natCast]
      rw [hgd, Int.toNat_natCast] at hx
      clear hgd
      obtain ⟨v, hv⟩ : ∃ v, v = l.getD k 0 := ⟨_, rfl⟩
      rw [← hv] at hx hsn
      cases hq : badV v with
      | true =>
        have HH := iC.mk (IW badV 0 l k hlt (by rw [← hv]; exact hq))
        have hcall := L9 v w
        rw [hq] at hcall
        clear hv hsn hq
        go_wp2_with (go_at_call 118; refine hcall.mono ?_; rintro e w' ⟨rfl, rfl⟩)
        go_ret
        exact ⟨k, rfl, by rw [HH.out]; simp, Below.refl _ _⟩
      | false =>
        have HN := iC.mk (show (l.take (k + 1)).any badV = false by rw [hsn, HA.out, hq]; rfl)
        have hcall := L9 v w
        rw [hq] at hcall
        clear hv hsn hq
        go_wp2_with (go_at_call 118; refine hcall.mono ?_; rintro e w' ⟨rfl, rfl⟩)
        go_roundg (l.length - (k + 1))
        case measure => omega
        case rel => exact ⟨k + 1, by omega, by omega, by go_num, ⟨rfl⟩, HN⟩
    · have : k = l.length := by omega
      subst this
      go_wp2
      go_ret
      exact ⟨-1, rfl, by rw [yH _ _ HA.out]; rfl, Below.refl _ _⟩
set_option maxHeartbeats 400000 in
theorem MM (A : Option Addr) (c : Nat) (l : List Int) (w : World) (hr : Kd.C (Kd.int .i64) w A l.length l) :
    Calls Tryd.prog 117 #[.slice A l.length c, .func (.func 118) #[] #[]] w fun e w' => e = .returned (.bool (l.any badV)) ∧ Below w.heap.size w w' := by
  have hcall := MJ A c l w hr
  clear hr
  generalize l.any badV = b at hcall
  go_enter Tryd.func117, Tryd.ntmps117
  go_wp2_with (go_at_call 129; refine hcall.mono ?_; rintro e w' ⟨r, rfl, hr, hb⟩; have HR := iC.mk hr; clear hr)
  go_ret
  exact ⟨by rw [← HR.out]; rfl, hb⟩
theorem QK (f : jO) : nR f = (decide ((f.f0.length : Int) ≤ 4) && !f.f0.any badV) := by
  unfold nR
  congr 1
  · rw [decide_eq_decide]; omega
  · rw [List.any_eq_not_all_not, Bool.not_not]
    congr 1
    funext v
    unfold badV
    rw [Bool.eq_iff_iff]
    simp
set_option maxHeartbeats 1000000 in
theorem QV (A : Option Addr) (c : Nat) (f : jO) (w : World) (hr : Kd.C (Kd.int .i64) w A f.f0.length f.f0) :
    Calls Tryd.prog 94 #[.agg #[.slice A f.f0.length c, .int .i64 f.f1]] w fun e w' => e = .returned (.bool (nR f)) ∧ Below w.heap.size w w' := by
  have hcall := MM A c f.f0 (w.alloc (.cells #[.slice A f.f0.length c, .int .i64 f.f1] 139)) (Kd.C_below hr (iF (Below.refl _ _) _))
  clear hr
  rw [QK]
  by_cases h4 : (f.f0.length : Int) ≤ 4
  · rw [decide_eq_true h4, Bool.true_and]
    generalize f.f0.any badV = b at hcall
    go_enter Tryd.func94, Tryd.ntmps94
    go_wp2_with (go_at_call 117; refine hcall.mono ?_; rintro e w' ⟨rfl, hb⟩)
    go_ret
    exact ⟨rfl, iI (iF (Below.refl _ _) _) hb⟩
  · rw [decide_eq_false h4, Bool.false_and]
    clear hcall
    go_enter Tryd.func94, Tryd.ntmps94
    go_wp2
    go_ret
    exact ⟨rfl, iF (Below.refl _ _) _⟩
set_option maxHeartbeats 400000 in
theorem JF (A : Option Addr) (c : Nat) (f : jO) (w : World) (hr : Kd.C (Kd.int .i64) w A f.f0.length f.f0) :
    Calls Tryd.prog 93 #[.agg #[.slice A f.f0.length c, .int .i64 f.f1]] w fun e w' => e = .returned (.bool (!nR f)) ∧ Below w.heap.size w w' := by
  have hcall := QV A c f (w.alloc (.cells #[.slice A f.f0.length c, .int .i64 f.f1] 139)) (Kd.C_below hr (iF (Below.refl _ _) _))
  clear hr
  generalize nR f = b at hcall
  go_enter Tryd.func93, Tryd.ntmps93
  go_wp2_with (go_at_call 94; refine hcall.mono ?_; rintro e w' ⟨rfl, hb⟩)
  go_ret
  exact ⟨rfl, iI (iF (Below.refl _ _) _) hb⟩
def O9 : jO := z139
set_option maxHeartbeats 1000000 in
theorem JD (A : Option Addr) (c : Nat) (l : List jO) (w : World) (hr : Kd.C k139 w A l.length l) :
    Calls Tryd.prog 116 #[.slice A l.length c, .func (.func 93) #[] #[]] w (IV (l.any fun f => !nR f) w) := by
  have hm := kQ hr
  have HR := iC.mk hr
  clear hr
  go_enter Tryd.func116, Tryd.ntmps116
  go_wp2
  go_loopg [5, 8] l.length (fun gg _ s8 wr => ∃ k : Nat, k ≤ l.length ∧ l.length - k ≤ gg ∧ s8 = .int .i64 k ∧ iC (Below w.heap.size w wr) ∧ iC ((l.take k).any (fun f => !nR f) = false))
  case atStart => exact ⟨0, Nat.zero_le _, by omega, rfl, ⟨Below.refl _ _⟩, ⟨rfl⟩⟩
  case round =>
    obtain ⟨k, hk, hg, rfl, HW, HA⟩ := hrel
    by_cases hlt : k < l.length
    · obtain ⟨ad, A1, c1, rfl, hx0, hx1, hl1, hC1⟩ := kN (Kd.C_below HR.out HW.out) (k : Int) (by omega) (by omega)
      have hsn := any_take_succ (fun f => !nR f) O9 l k hlt
      have hgd : iV l (k : Int) = l.getD k O9 := by unfold iV O9; rw [Int.toNat_natCast]
      rw [hgd] at hx0 hx1 hl1 hC1
      rw [Int.toNat_natCast] at hx0 hx1
      clear hgd
      obtain ⟨f, hf⟩ : ∃ v, v = l.getD k O9 := ⟨_, rfl⟩
      rw [← hf] at hx0 hx1 hsn hl1 hC1
      have hcall := JF A1 c1 f wr hC1
      cases hq : (!nR f) with
      | true =>
        have HH := iC.mk (IW (fun f => !nR f) O9 l k hlt (by rw [← hf]; exact hq))
        rw [hq] at hcall
        clear hf hsn hq hC1 hl1
        go_wp2_with (go_at_call 93; refine hcall.mono ?_; rintro e w' ⟨rfl, hb⟩)
        go_ret
        exact ⟨k, rfl, by rw [HH.out]; simp, iI HW.out hb⟩
      | false =>
        have HN := iC.mk (show (l.take (k + 1)).any (fun f => !nR f) = false by rw [hsn, HA.out, hq]; rfl)
        rw [hq] at hcall
        clear hf hsn hq hC1 hl1
        go_wp2_with (go_at_call 93; refine hcall.mono ?_; rintro e w' ⟨rfl, hb⟩)
        go_roundg (l.length - (k + 1))
        case measure => omega
        case rel => exact ⟨k + 1, by omega, by omega, by go_num, ⟨iI HW.out hb⟩, HN⟩
    · have : k = l.length := by omega
      subst this
      go_wp2
      go_ret
      exact ⟨-1, rfl, by rw [yH _ _ HA.out]; rfl, HW.out⟩
set_option maxHeartbeats 400000 in
theorem IY (A : Option Addr) (c : Nat) (l : List jO) (w : World) (hr : Kd.C k139 w A l.length l) :
    Calls Tryd.prog 92 #[.slice A l.length c, .func (.func 93) #[] #[]] w fun e w' => e = .returned (.bool (l.any fun f => !nR f)) ∧ Below w.heap.size w w' := by
  have hcall := JD A c l w hr
  clear hr
  generalize (l.any fun f => !nR f) = b at hcall
  go_enter Tryd.func92, Tryd.ntmps92
  go_wp2_with (go_at_call 116; refine hcall.mono ?_; rintro e w' ⟨r, rfl, hr, hb⟩; have HR := iC.mk hr; clear hr)
  go_ret
  exact ⟨by rw [← HR.out]; rfl, hb⟩
theorem P5 (l : List jO) : lW l = (decide ((l.length : Int) ≤ 200) && !l.any fun f => !nR f) := by
  unfold lW
  congr 1
  · rw [decide_eq_decide]; omega
  · rw [List.any_eq_not_all_not, Bool.not_not]
    congr 1
    funext v
    simp
def code_batch.f (l0 : List jO) : Option Bool := some (lW l0)
set_option maxHeartbeats 1000000 in
theorem code_batch.calls (A0 : Option Addr) (c0 : Nat) (l0 : List jO) (r : Bool) (w : World) (hr0 : Kd.C k139 w A0 l0.length l0) (hc0 : l0.length ≤ c0) (h : code_batch.f l0 = some r) :
    Calls Tryd.prog 62 #[.slice A0 l0.length c0] w fun e w' => e = .returned (.bool r) ∧ Below w.heap.size w w' := by
  obtain rfl := Option.some.inj h
  have hm := kQ hr0
  have hcall := IY A0 c0 l0 w hr0
  clear hr0 h
  rw [P5]
  by_cases h4 : (l0.length : Int) ≤ 200
  · rw [decide_eq_true h4, Bool.true_and]
    generalize (l0.any fun f => !nR f) = b at hcall
    go_enter Tryd.func62, Tryd.ntmps62
    go_wp2_with (go_at_call 92; refine hcall.mono ?_; rintro e w' ⟨rfl, hb⟩)
    go_ret
    exact ⟨rfl, hb⟩
  · rw [decide_eq_false h4, Bool.false_and]
    clear hcall
    go_enter Tryd.func62, Tryd.ntmps62
    go_wp2
    go_ret
    exact ⟨rfl, Below.refl _ _⟩
end Go.Proofs.YtgfkgppomaapiaaDoor.K
end
