/- Parts of the proof, one behind the other: Base, Row, Card, Order, K0, K34, K35, K36, K37, CodeP, CodeB, K4. -/
import Derived.Test.YtgfkgppomaapiaaDoorQCodeMakes1
import Derived.Test.YtgfkgppomaapiaaDoorProg
import Derived.WalkSpells
import Derived.WalkLawsBesides
import Derived.RegionTactic
import Derived.ChangeAlike
import Derived.Lib.Hide
import Derived.Lib.SlBytesConst
import Derived.ProofKit
import Derived.OpenShut
import Derived.ShutString
import Derived.ChangeOld
import Derived.SizedLaws
import Derived.ChangeSlices
import Derived.Test.YtgfkgppomaapiaaDoorCards
import Derived.Test.YtgfkgppomaapiaaDoorTie
import Derived.LaidMore
import Derived.Stop.Joined
import Derived.Deep.DeepHandedRow
import Derived.Test.YtgfkgppomaapiaaDoorRows
import Derived.JoinedCond
import Derived.Shelf.Abstract
set_option linter.unusedVariables false
set_option linter.unusedSimpArgs false
section
namespace Go.Proofs.YtgfkgppomaapiaaDoor.My
open Go Go.RowKit Go.Proofs.YtgfkgppomaapiaaDoorW.PrintWords
def kb : Kd UInt8 := Kd.scalar (fun b => Value.int .u8 (b.toNat : Int)) (fun _ => rfl)
theorem C_at {w : World} {A : Option Addr} {n : Nat} {l : List UInt8} (h : kb.C w A n l) (i : Nat) (hi : i < n) : ∃ ad, A = some ad ∧ w.cell? (ad.add i) = some (.int .u8 (l.getD i 0).toNat) := by
  obtain ⟨ad, c, e, hl, hK, hc⟩ := Kd.C_get h 0 (i : Int) (by omega) (by omega)
  have hK' : c = [.int .u8 (l.getD i 0).toNat] := hK
  subst hK'
  have := hc 0 _ rfl
  simp only [Int.toNat_natCast, Nat.add_zero] at this
  rw [show kb.sz = 1 from rfl, Nat.mul_one] at this
  exact ⟨ad, e, this⟩
theorem lH {α : Type} {d : Kd α} {w : World} {A : Option Addr} {n : Nat} {l : List α} (h : d.C w A n l) : n ≤ 9223372036854775807 := h.2.1
theorem nD {α : Type} (d : α) (l : List α) (k : Nat) (h : k < l.length) : l.take (k + 1) = l.take k ++ [l.getD k d] := by
  rw [List.take_succ_eq_append_getElem h, List.getD_eq_getElem?_getD, List.getElem?_eq_getElem h]; rfl
def Cs (W : World) (cs : List Value) (ls : List (List UInt8)) : Prop :=
  cs.length = ls.length ∧ ∀ (i : Nat) (l : List UInt8), ls[i]? = some l → ∃ A c, cs[i]? = some (.slice A l.length c) ∧ l.length ≤ c ∧ kb.C W A l.length l
theorem Cs.cons {W : World} {cs : List Value} {ls : List (List UInt8)} {A : Option Addr} {c n : Nat} {l : List UInt8} (h : kb.C W A n l) (hc : n ≤ c) (hs : Cs W cs ls) : Cs W (.slice A n c :: cs) (l :: ls) := by
  have hn := h.1
  subst hn
  refine ⟨by simp [hs.1], fun i x hx => ?_⟩
  rcases i with _ | i
  · obtain rfl : l = x := by simpa using hx
    exact ⟨A, c, rfl, hc, h⟩
  · exact hs.2 i x (by simpa using hx)
theorem jA {W : World} {o : Obj} {b : Nat} (hb : b = W.heap.size) : (W.alloc o).heap[b]? = some o := by
  subst hb
  show (W.heap.push o)[W.heap.size]? = _
  simp
theorem jP {W : World} {o o' : Obj} {b : Nat} (h : W.heap[b]? = some o') : (W.alloc o).heap[b]? = some o' := by
  rw [Below.heap_alloc _ _ _ (jQ h)]
  exact h
theorem iO {W W' : World} {o : Obj} {b : Nat} (hb : Below W.heap.size W W') (h : W.heap[b]? = some o) : W'.heap[b]? = some o := (hb.block b (jQ h)).trans h
theorem zK : (Tryd.prog.info? 5).map (·.size) = some 1 := by kernel_rfl
theorem WY {w : World} {A : Option Addr} {c : Nat} {l : List UInt8} (h : kb.C w A l.length l) (hc : l.length ≤ c) (lo : Nat) (loI : Int) (e1 : loI = lo) (h1 : lo ≤ l.length) :
    ∃ A', (∀ W : World, (Instr.slice 33 (.slice A l.length c) (some (.int .i64 loI)) none none).run Tryd.prog W = .ok (.slice A' (l.length - lo) (c - lo)) W) ∧ kb.C w A' (l.length - lo) (l.drop lo) := by
  subst e1
  obtain ⟨i, hi0, hsz⟩ := Option.map_eq_some_iff.1 zK
  have hl : (l.drop lo).length = l.length - lo := List.length_drop
  refine ⟨if c = lo then A else A.map (·.add lo), fun W => ?_, ?_⟩
  · have hel : Tryd.prog.elem 33 = 5 := by simp [Program.elem, Tryd.underlying33]
    have hu : Tryd.prog.underlying 33 = some (.slice (Tryd.prog.elem 33)) := by rw [hel]; exact Tryd.underlying33
    rw [run_slice_l W 33 A l.length c hu .i64 (lo : Int) (Int.natCast_nonneg _) (by omega), hel]
    simp [sizeOf, typeInfo, hi0, hsz, sliced, Result.andThen]
  · have := Kd.C_drop h h1 hc
    rw [hl, show lo * kb.sz = lo from Nat.mul_one _] at this
    exact this
theorem WP (A : Option Addr) (n c hi : Nat) (hiI : Int) (e1 : hiI = hi) (h1 : hi ≤ n) (hc : n ≤ c) :
    ∀ W : World, (Instr.slice 33 (.slice A n c) none (some (.int .i64 hiI)) none).run Tryd.prog W = .ok (.slice A hi c) W := by
  subst e1
  intro W
  obtain ⟨i, hi0, hsz⟩ := Option.map_eq_some_iff.1 zK
  have hel : Tryd.prog.elem 33 = 5 := by simp [Program.elem, Tryd.underlying33]
  have hu : Tryd.prog.underlying 33 = some (.slice (Tryd.prog.elem 33)) := by rw [hel]; exact Tryd.underlying33
  rw [run_slice_h W 33 A n c hu .i64 (hi : Int) (Int.natCast_nonneg _) (by omega), hel]
  simp [sizeOf, typeInfo, hi0, hsz, sliced, Result.andThen]
  intro _
  cases A with
  | none => rfl
  | some a => simp [Addr.add]
theorem U9 {w : World} {A : Option Addr} {l : List UInt8} (h : kb.C w A l.length l) (n : Nat) (hn : n ≤ l.length) : kb.C w A n (l.take n) := by
  have := Kd.C_take h hn
  rwa [show (l.take n).length = n from by rw [List.length_take]; omega] at this
def bs (l : List UInt8) : ByteArray := ⟨l.toArray⟩
theorem QG (l : List UInt8) : (bs l).data.toList = l := by simp [bs]
theorem kU (l : List UInt8) : (bs l).toList = l := by rw [ByteArray.toList_eq, QG]
theorem O1 {w : World} {A : Option Addr} {n : Nat} {l : List UInt8} (h : kb.C w A n l) : MO w .u8 A n (l.map fun b => (b.toNat : Int)) := by
  refine ⟨by rw [List.length_map]; exact h.1, h.2.1, fun hn => ?_⟩
  obtain ⟨ad, e, _⟩ := h.2.2 hn
  refine ⟨ad, e, fun i hi => ?_⟩
  obtain ⟨ad', e', hc⟩ := C_at h i hi
  obtain rfl : ad = ad' := by rw [e] at e'; injection e'
  rw [hc, List.getD_eq_getElem?_getD, List.getD_eq_getElem?_getD, List.getElem?_map]
  rw [List.getElem?_eq_getElem (by have := h.1; omega)]
  rfl
theorem qW (l : List UInt8) : strOfNums (l.map fun b => (b.toNat : Int)) = bs l := by
  unfold strOfNums bs
  congr 1
  apply Array.ext'
  simp only [List.map_map]
  conv => rhs; rw [← List.map_id l]
  apply List.map_congr_left
  intro b _
  simp
theorem LW {w : World} {A : Option Addr} {n c : Nat} {l : List UInt8} (h : kb.C w A n l) : (convert 33 9 (.slice A n c)).run Tryd.prog w = .ok (.string (bs l)) w := by
  rw [← qW]
  exact pR Tryd.underlying33 Tryd.underlying5 Tryd.underlying9 (O1 h)
end Go.Proofs.YtgfkgppomaapiaaDoor.My
end
section
namespace Go.Proofs.YtgfkgppomaapiaaDoorW.PrintMore
open Go Go.RowKit Go.Proofs.YtgfkgppomaapiaaDoorW.PrintWords Go.Proofs.YtgfkgppomaapiaaDoorW.PrintLast Go.Proofs.YtgfkgppomaapiaaDoorW.PrintMore
theorem bel_ {p : Prop} (h : p := by (with_reducible (repeat (first | exact Below.refl _ _ | apply iF | apply qG | apply iG | apply Go.Proofs.YtgfkgppomaapiaaDoor.My.below_bytesWorld | (refine iI ?_ (by first | assumption | omega)) | refine iL ?_ (by assumption))))) : p := h
theorem hb_ {p : Prop} (h : p := by repeat (first | (with_reducible first | exact HB.out | apply iF | apply iG | apply iH) | exact HB.out)) : p := h
theorem asm_ {p : Prop} (h : p := by first | (with_reducible assumption) | assumption) : p := h
theorem bk_ {p q : Prop} (h : p) (f : p → q := by intro h; (with_reducible repeat (first | refine iK ?_ _ | refine iM ?_ | refine iJ ?_ _)); exact h) : q := f h
end Go.Proofs.YtgfkgppomaapiaaDoorW.PrintMore
end

section
namespace Go.Proofs.YtgfkgppomaapiaaDoor.My
open Go Go.RowKit Go.Proofs.YtgfkgppomaapiaaDoorW.PrintWords
theorem own : ownKnob Tryd.prog.godebug = none := by kernel_rfl
theorem laidOut : laidOutB Tryd.prog = true := by kernel_rfl
theorem wf_u8 {n : Int} (h : (Lit.int .u8 n).wf = true) : 0 ≤ n ∧ n < 256 := by
  have := bounds_u8 h
  omega
theorem wf_i64 {n : Int} (h : (Lit.int .i64 n).wf = true) : -9223372036854775808 ≤ n ∧ n ≤ 9223372036854775807 := by
  have := bounds_i64 h
  omega
theorem wf_u32 {n : Int} (h : (Lit.int .u32 n).wf = true) : 0 ≤ n ∧ n < 4294967296 := by
  have := bounds_u32 h
  omega
theorem wf_u16 {n : Int} (h : (Lit.int .u16 n).wf = true) : 0 ≤ n ∧ n < 65536 := by
  have := bounds_u16 h
  omega
end Go.Proofs.YtgfkgppomaapiaaDoor.My
end

section
namespace Go.Proofs.YtgfkgppomaapiaaDoor.My
open Go Go.RowKit
theorem door_met (os : Os) (args : Array Value) : laidMetH Tryd.prog [("bytes.ErrTooLarge", Rows.laid_bytes_ErrTooLarge)] ((World.doorLaid Tryd.prog 400 os).forCall (fun _ _ => 0) ⟨#[], args, []⟩).memory :=
  show laidMetH Tryd.prog [("bytes.ErrTooLarge", Rows.laid_bytes_ErrTooLarge)] _ from laidMetH_of_parts3 (fuel := 8) (laidMet_of_run' 8 (by kernel_rfl) (by kernel_rfl)) (by kernel_rfl) (by kernel_rfl)
theorem LY (os : Os) (args : Array Value) : ((World.doorLaid Tryd.prog 400 os).forCall (fun _ _ => 0) ⟨#[], args, []⟩).Shaped Tryd.prog := World.shaped_of_RefB (by kernel_rfl) (by kernel_rfl)
theorem witness_door {H : Type} {enc : TypeId × Value → H} {os : Os} {f : FuncId} {fn : Func} {s : OpenSpec} (args : Array Value) {x : List (DataW H) × List (DataW H) × List MemPlace}
    (hok : Input.okWideB Tryd.prog ((World.doorLaid Tryd.prog 400 os).forCall (fun _ _ => 0) ⟨#[], args, []⟩) f ⟨#[], args, []⟩ = true)
    (hx : DataW.whole enc Tryd.prog ((World.doorLaid Tryd.prog 400 os).forCall (fun _ _ => 0) ⟨#[], args, []⟩).memory fn.params.toList s.vars false args.toList 8 = some x)
    (hkk : ∀ k, s.cond = some k → k H (x.1 ++ x.2.1) = true)
    (hsz : s.bare.sizedB enc Tryd.prog fn false ((World.doorLaid Tryd.prog 400 os).forCall (fun _ _ => 0) ⟨#[], args, []⟩).memory args 8 = true) :
    ∃ (w : World) (tape : Tape) (i : Input), w.os = os ∧ (w.forCall tape i).Shaped Tryd.prog ∧ i.vars = [] ∧ Input.okWide Tryd.prog (w.forCall tape i) .any w.heap.size f i ∧
      s.preRow enc Tryd.prog fn [] false [("bytes.ErrTooLarge", Rows.laid_bytes_ErrTooLarge)] (w.forCall tape i).memory i.args ∧ ({} : Assume).holds Tryd.prog (lone (Frame.enter Tryd.prog f i.args .normal) [] (w.forCall tape i)) :=
  ⟨World.doorLaid Tryd.prog 400 os, fun _ _ => 0, ⟨#[], args, []⟩, rfl, LY os args, (Input.okWide_of_okWideB (base := 0) hok).1, (Input.okWide_of_okWideB hok).2,
    OpenSpec.preRow_of_cond 8 hx rfl hkk hsz (door_met os args), by
    simp only [Assume.holds]
    exact ⟨by simp, by simp, fun _ => Modest.zero, by simp, by simp⟩⟩
end Go.Proofs.YtgfkgppomaapiaaDoor.My
end

section
namespace Go.Proofs.YtgfkgppomaapiaaDoor.My
open Go
set_option maxRecDepth 100000
theorem NY (c : Char) (h : c ≠ Char.ofNat 32) {r w : List Char} {ws : List (List Char)} (hr : wordsSigns r = w :: ws) : wordsSigns (c :: r) = (c :: w) :: ws := by
  unfold wordsSigns
  split
  · rename_i heq; cases heq
  · rename_i heq; injection heq with h1 _; exact absurd h1 h
  · rename_i heq; injection heq with h1 h2; subst h1; subst h2; rw [hr]
theorem rV : ∀ (w : List Char), (w.all fun c => decide (c ≠ Char.ofNat 32)) = true → ∀ r, wordsSigns (w ++ Char.ofNat 32 :: r) = w :: wordsSigns r
  | [], _, r => rfl
  | c :: w, h, r => by
    simp only [List.all_cons, Bool.and_eq_true, decide_eq_true_eq] at h
    exact NY c h.1 (rV w h.2 r)
def WB : List Char := [Char.ofNat 104, Char.ofNat 97, Char.ofNat 114, Char.ofNat 110, Char.ofNat 101, Char.ofNat 115, Char.ofNat 115]
def VX : List Char := [Char.ofNat 102, Char.ofNat 97, Char.ofNat 54, Char.ofNat 55, Char.ofNat 50, Char.ofNat 100, Char.ofNat 57, Char.ofNat 50, Char.ofNat 53, Char.ofNat 102, Char.ofNat 97, Char.ofNat 49, Char.ofNat 102, Char.ofNat 56, Char.ofNat 50, Char.ofNat 98, Char.ofNat 49, Char.ofNat 102, Char.ofNat 49, Char.ofNat 52,
    Char.ofNat 54, Char.ofNat 55, Char.ofNat 100, Char.ofNat 101, Char.ofNat 49, Char.ofNat 57, Char.ofNat 57, Char.ofNat 54, Char.ofNat 100, Char.ofNat 99, Char.ofNat 50, Char.ofNat 100, Char.ofNat 49, Char.ofNat 50, Char.ofNat 49, Char.ofNat 52, Char.ofNat 52, Char.ofNat 101, Char.ofNat 54, Char.ofNat 56,
    Char.ofNat 51, Char.ofNat 54, Char.ofNat 57, Char.ofNat 102, Char.ofNat 99, Char.ofNat 53, Char.ofNat 48, Char.ofNat 54, Char.ofNat 48, Char.ofNat 57, Char.ofNat 48, Char.ofNat 97, Char.ofNat 50, Char.ofNat 57, Char.ofNat 97, Char.ofNat 48, Char.ofNat 50, Char.ofNat 51, Char.ofNat 49, Char.ofNat 57,
    Char.ofNat 97, Char.ofNat 101, Char.ofNat 56, Char.ofNat 97]
def word2 : List Char := [Char.ofNat 99, Char.ofNat 117, Char.ofNat 116]
def behind : List Char := [Char.ofNat 97, Char.ofNat 116, Char.ofNat 32, Char.ofNat 115, Char.ofNat 116, Char.ofNat 114, Char.ofNat 97, Char.ofNat 116, Char.ofNat 117, Char.ofNat 109, Char.ofNat 47, Char.ofNat 115, Char.ofNat 116, Char.ofNat 114, Char.ofNat 97, Char.ofNat 116, Char.ofNat 117, Char.ofNat 109, Char.ofNat 108, Char.ofNat 97,
    Char.ofNat 119, Char.ofNat 48, Char.ofNat 55, Char.ofNat 46, Char.ofNat 67, Char.ofNat 111, Char.ofNat 100, Char.ofNat 101, Char.ofNat 69, Char.ofNat 110, Char.ofNat 99, Char.ofNat 111, Char.ofNat 100, Char.ofNat 101, Char.ofNat 115, Char.ofNat 32, Char.ofNat 115, Char.ofNat 116, Char.ofNat 114, Char.ofNat 97,
    Char.ofNat 116, Char.ofNat 117, Char.ofNat 109, Char.ofNat 47, Char.ofNat 115, Char.ofNat 116, Char.ofNat 114, Char.ofNat 97, Char.ofNat 116, Char.ofNat 117, Char.ofNat 109, Char.ofNat 108, Char.ofNat 97, Char.ofNat 119, Char.ofNat 48, Char.ofNat 55, Char.ofNat 46, Char.ofNat 67, Char.ofNat 111, Char.ofNat 100,
    Char.ofNat 101, Char.ofNat 77, Char.ofNat 97, Char.ofNat 107, Char.ofNat 101, Char.ofNat 115, Char.ofNat 32, Char.ofNat 115, Char.ofNat 116, Char.ofNat 114, Char.ofNat 97, Char.ofNat 116, Char.ofNat 117, Char.ofNat 109, Char.ofNat 47, Char.ofNat 115, Char.ofNat 116, Char.ofNat 114, Char.ofNat 97, Char.ofNat 116,
    Char.ofNat 117, Char.ofNat 109, Char.ofNat 108, Char.ofNat 97, Char.ofNat 119, Char.ofNat 48, Char.ofNat 55, Char.ofNat 46, Char.ofNat 67, Char.ofNat 111, Char.ofNat 100, Char.ofNat 101, Char.ofNat 68, Char.ofNat 101, Char.ofNat 99, Char.ofNat 111, Char.ofNat 100, Char.ofNat 101, Char.ofNat 115, Char.ofNat 32,
    Char.ofNat 115, Char.ofNat 116, Char.ofNat 114, Char.ofNat 97, Char.ofNat 116, Char.ofNat 117, Char.ofNat 109, Char.ofNat 47, Char.ofNat 115, Char.ofNat 116, Char.ofNat 114, Char.ofNat 97, Char.ofNat 116, Char.ofNat 117, Char.ofNat 109, Char.ofNat 108, Char.ofNat 97, Char.ofNat 119, Char.ofNat 49, Char.ofNat 54,
    Char.ofNat 46, Char.ofNat 77, Char.ofNat 115, Char.ofNat 103, Char.ofNat 69, Char.ofNat 110, Char.ofNat 99, Char.ofNat 111, Char.ofNat 100, Char.ofNat 101, Char.ofNat 115, Char.ofNat 32, Char.ofNat 115, Char.ofNat 116, Char.ofNat 114, Char.ofNat 97, Char.ofNat 116, Char.ofNat 117, Char.ofNat 109, Char.ofNat 47,
    Char.ofNat 115, Char.ofNat 116, Char.ofNat 114, Char.ofNat 97, Char.ofNat 116, Char.ofNat 117, Char.ofNat 109, Char.ofNat 108, Char.ofNat 97, Char.ofNat 119, Char.ofNat 49, Char.ofNat 54, Char.ofNat 46, Char.ofNat 77, Char.ofNat 115, Char.ofNat 103, Char.ofNat 68, Char.ofNat 101, Char.ofNat 99, Char.ofNat 111,
    Char.ofNat 100, Char.ofNat 101, Char.ofNat 115, Char.ofNat 32, Char.ofNat 115, Char.ofNat 116, Char.ofNat 114, Char.ofNat 97, Char.ofNat 116, Char.ofNat 117, Char.ofNat 109, Char.ofNat 47, Char.ofNat 115, Char.ofNat 116, Char.ofNat 114, Char.ofNat 97, Char.ofNat 116, Char.ofNat 117, Char.ofNat 109, Char.ofNat 108,
    Char.ofNat 97, Char.ofNat 119, Char.ofNat 49, Char.ofNat 54, Char.ofNat 46, Char.ofNat 77, Char.ofNat 115, Char.ofNat 103, Char.ofNat 66, Char.ofNat 97, Char.ofNat 99, Char.ofNat 107, Char.ofNat 32, Char.ofNat 115, Char.ofNat 116, Char.ofNat 114, Char.ofNat 97, Char.ofNat 116, Char.ofNat 117, Char.ofNat 109,
    Char.ofNat 47, Char.ofNat 115, Char.ofNat 116, Char.ofNat 114, Char.ofNat 97, Char.ofNat 116, Char.ofNat 117, Char.ofNat 109, Char.ofNat 108, Char.ofNat 97, Char.ofNat 119, Char.ofNat 49, Char.ofNat 54, Char.ofNat 46, Char.ofNat 77, Char.ofNat 115, Char.ofNat 103, Char.ofNat 79, Char.ofNat 110, Char.ofNat 108,
    Char.ofNat 121, Char.ofNat 32, Char.ofNat 115, Char.ofNat 116, Char.ofNat 114, Char.ofNat 97, Char.ofNat 116, Char.ofNat 117, Char.ofNat 109, Char.ofNat 47, Char.ofNat 115, Char.ofNat 116, Char.ofNat 114, Char.ofNat 97, Char.ofNat 116, Char.ofNat 117, Char.ofNat 109, Char.ofNat 108, Char.ofNat 97, Char.ofNat 119,
    Char.ofNat 49, Char.ofNat 54, Char.ofNat 46, Char.ofNat 77, Char.ofNat 115, Char.ofNat 103, Char.ofNat 65, Char.ofNat 112, Char.ofNat 97, Char.ofNat 114, Char.ofNat 116, Char.ofNat 32, Char.ofNat 115, Char.ofNat 116, Char.ofNat 114, Char.ofNat 97, Char.ofNat 116, Char.ofNat 117, Char.ofNat 109, Char.ofNat 47,
    Char.ofNat 115, Char.ofNat 116, Char.ofNat 114, Char.ofNat 97, Char.ofNat 116, Char.ofNat 117, Char.ofNat 109, Char.ofNat 108, Char.ofNat 97, Char.ofNat 119, Char.ofNat 49, Char.ofNat 54, Char.ofNat 46, Char.ofNat 77, Char.ofNat 115, Char.ofNat 103, Char.ofNat 75, Char.ofNat 105, Char.ofNat 110, Char.ofNat 100,
    Char.ofNat 115, Char.ofNat 32, Char.ofNat 115, Char.ofNat 116, Char.ofNat 114, Char.ofNat 97, Char.ofNat 116, Char.ofNat 117, Char.ofNat 109, Char.ofNat 47, Char.ofNat 115, Char.ofNat 116, Char.ofNat 114, Char.ofNat 97, Char.ofNat 116, Char.ofNat 117, Char.ofNat 109, Char.ofNat 108, Char.ofNat 97, Char.ofNat 119,
    Char.ofNat 49, Char.ofNat 49, Char.ofNat 46, Char.ofNat 87, Char.ofNat 97, Char.ofNat 108, Char.ofNat 82, Char.ofNat 111, Char.ofNat 111, Char.ofNat 109, Char.ofNat 32, Char.ofNat 115, Char.ofNat 116, Char.ofNat 114, Char.ofNat 97, Char.ofNat 116, Char.ofNat 117, Char.ofNat 109, Char.ofNat 47, Char.ofNat 115,
    Char.ofNat 116, Char.ofNat 114, Char.ofNat 97, Char.ofNat 116, Char.ofNat 117, Char.ofNat 109, Char.ofNat 108, Char.ofNat 97, Char.ofNat 119, Char.ofNat 49, Char.ofNat 49, Char.ofNat 46, Char.ofNat 87, Char.ofNat 97, Char.ofNat 108, Char.ofNat 70, Char.ofNat 114, Char.ofNat 111, Char.ofNat 110, Char.ofNat 116,
    Char.ofNat 115, Char.ofNat 32, Char.ofNat 115, Char.ofNat 116, Char.ofNat 114, Char.ofNat 97, Char.ofNat 116, Char.ofNat 117, Char.ofNat 109, Char.ofNat 47, Char.ofNat 115, Char.ofNat 116, Char.ofNat 114, Char.ofNat 97, Char.ofNat 116, Char.ofNat 117, Char.ofNat 109, Char.ofNat 108, Char.ofNat 97, Char.ofNat 119,
    Char.ofNat 49, Char.ofNat 49, Char.ofNat 46, Char.ofNat 87, Char.ofNat 97, Char.ofNat 108, Char.ofNat 76, Char.ofNat 97, Char.ofNat 115, Char.ofNat 116, Char.ofNat 115]
theorem UB : Tryd.prog.initOrder = String.ofList (WB ++ Char.ofNat 32 :: (VX ++ Char.ofNat 32 :: (word2 ++ Char.ofNat 32 :: behind))) := by kernel_rfl
theorem yB : wordsSigns Tryd.prog.initOrder.toList = WB :: VX :: word2 :: wordsSigns behind := by
  rw [UB, String.toList_ofList, rV _ (by kernel_rfl), rV _ (by kernel_rfl), rV _ (by kernel_rfl)]
theorem pU : behindMainWord (wordsSigns Tryd.prog.initOrder.toList) = word2 :: wordsSigns behind := by rw [yB]; kernel_rfl
theorem VB {P : Program} {h s : List Char} {r : List (List Char)} (e : wordsSigns P.initOrder.toList = h :: s :: r) : P.mainIs = (if !isSumSigns s then none else if h == "harness".toList then some (true, s) else if h == "ownmain".toList then some (false, s) else none) := by unfold Program.mainIs; rw [e]
theorem VG {P : Program} {c : List Char} {r : List (List Char)} (e : behindMainWord (wordsSigns P.initOrder.toList) = c :: r) (h1 : (c == "gc".toList || c == "spec".toList) = false) (h2 : (c == "cut".toList) = true) : P.make = some .cut := by
  unfold Program.make; rw [e]; simp only [h1, h2]; rfl
theorem WT {P : Program} {c : List Char} {r : List (List Char)} (e : behindMainWord (wordsSigns P.initOrder.toList) = c :: r) (h : ((stripLifts liftWords (c :: r)).2.head? == some "cut".toList && ((stripLifts liftWords (c :: r)).1.contains "finals" || !P.laysLater) && ((stripLifts liftWords (c :: r)).1.contains "reflectrows" || !P.bearsReflect) && ((stripLifts liftWords (c :: r)).1.contains "reflectrows" || !(stripLifts liftWords (c :: r)).1.contains "leanrows") && P.doorFits (stripLifts liftWords (c :: r)).1) = true) : P.mayEnter = true := by
  unfold Program.mayEnter; rw [e]; simp only [h, Bool.or_true]
theorem TE : stripLifts liftWords (word2 :: wordsSigns behind) = ([], word2 :: wordsSigns behind) := by kernel_rfl
theorem OL : Tryd.prog.mayEnter = true := WT pU (by rw [TE]; kernel_rfl)
theorem MK : Tryd.prog.liftsFinal = false := by unfold Program.liftsFinal Program.headLifts; rw [pU]; kernel_rfl
theorem OJ : Tryd.prog.make = some .cut := VG pU (by kernel_rfl) (by kernel_rfl)
theorem sum_is : ("fa672d925fa1f82b1f1467de1996dc2d12144e68369fc506090a29a02319ae8a" : String) = String.ofList VX := by kernel_rfl
theorem NM : Tryd.prog.mainIs = some (true, ("fa672d925fa1f82b1f1467de1996dc2d12144e68369fc506090a29a02319ae8a" : String).toList) := by rw [sum_is, String.toList_ofList]; exact (VB yB).trans (by kernel_rfl)
theorem pin_may : Tryd.pinned.checked.prog.mayEnter = true := OL
theorem pin_final : Tryd.pinned.checked.prog.liftsFinal = false := MK
theorem pin_make : Tryd.pinned.checked.prog.make = some .cut := OJ
theorem pin_main : Tryd.pinned.checked.prog.mainIs = some (true, ("fa672d925fa1f82b1f1467de1996dc2d12144e68369fc506090a29a02319ae8a" : String).toList) := NM
theorem band {a b : Bool} (ha : a = true) (hb : b = true) : (a && b) = true := by rw [ha, hb]; rfl
end Go.Proofs.YtgfkgppomaapiaaDoor.My
end

section
namespace Go.Proofs.YtgfkgppomaapiaaDoor.K
open Go.RowKit Go.Proofs.YtgfkgppomaapiaaDoorW.PrintWords Go.Proofs.YtgfkgppomaapiaaDoorW.PrintLast Go.Proofs.YtgfkgppomaapiaaDoorW.PrintMore
attribute [local go_sem] kC kN
def errW : Option Int → Value
  | none => .nilIface
  | some c => .iface 0 (.int .i64 c)
theorem iQ : errW none = .nilIface := rfl
theorem iR (c : Int) : errW (some c) = .iface 0 (.int .i64 c) := rfl
theorem info3 : (Tryd.prog.info? 3).map (fun i => (i.zero, i.size, i.bytes)) = some (some (.int .i64 0), 1, 8) := by kernel_rfl
theorem info5 : (Tryd.prog.info? 5).map (fun i => (i.zero, i.size, i.bytes)) = some (some (.int .u8 0), 1, 1) := by kernel_rfl
theorem UK : (Tryd.prog.info? 86).map (fun i => (i.zero, i.size, i.bytes)) = some (some (.agg #[(.int .u32 0), (.slice none 0 0)]), 2, 32) := by kernel_rfl
theorem UR : (Tryd.prog.info? 98).map (fun i => (i.zero, i.size, i.bytes)) = some (some (.agg #[(.int .i64 0), (.int .i64 0)]), 2, 16) := by kernel_rfl
structure S139 where
  f0 : (List Int)
  f1 : Int
def z139 : S139 := ⟨([] : List Int), (0 : Int)⟩
def k139 : Kd S139 := Kd.iso (Kd.pair (Kd.slice 3 (Kd.int .i64)) (Kd.int .i64)) (fun x : S139 => (x.f0, x.f1))
theorem qC : Kd.Heap k139 := Kd.heap_iso _ (Kd.heap_pair (Kd.heap_slice 3 (Kd.heap_int .i64)) (Kd.heap_int .i64))
theorem Q5 {w : World} {x : S139} {cs : List Value} (h : k139.K w x cs) : ∃ A0 c0, cs = [.slice A0 x.f0.length c0, .int .i64 x.f1] ∧ x.f0.length ≤ c0 ∧ (Kd.int .i64).C w A0 x.f0.length x.f0 := by
  obtain ⟨_, _, rfl, ⟨A0, c0, rfl, l0, g0⟩, rfl⟩ := h
  exact ⟨A0, c0, rfl, l0, g0⟩
theorem zZ (w : World) (base : Nat) (ok : Nat → Prop) (x : S139) {v0 : Value} (g0 : (Kd.int .i64).R 3 w base ok v0 x.f0) : k139.M w base ok x [v0, .int .i64 x.f1] := ⟨[v0], [.int .i64 x.f1], rfl, ⟨v0, rfl, g0⟩, rfl⟩
def iU (xs : List S139) (i : Int) : S139 := xs.getD i.toNat z139
theorem kG {w : World} {A : Option Addr} {n : Nat} {xs : List S139} (h : Kd.C k139 w A n xs) (i : Int) (h0 : 0 ≤ i) (h1 : i < n) : ∃ ad A0 c0, A = some ad ∧ w.cell? (ad.add (i.toNat * 2)) = some (.slice A0 (iU xs i).f0.length c0) ∧ w.cell? ⟨(ad.add (i.toNat * 2)).block, (ad.add (i.toNat * 2)).off + 1, none⟩ = some (.int .i64 (iU xs i).f1) ∧ (iU xs i).f0.length ≤ c0 ∧ (Kd.int .i64).C w A0 (iU xs i).f0.length (iU xs i).f0 := by
  obtain ⟨ad, c, e, _, hK, hc0⟩ := Kd.C_get h z139 i h0 h1
  have hc : ∀ j u, c[j]? = some u → w.cell? (ad.add (i.toNat * 2 + j)) = some u := hc0
  obtain ⟨A0, c0, rfl, l0, g0⟩ := Q5 hK
  exact ⟨ad, A0, c0, e, hc 0 _ rfl, by rw [← xG _ _ 1 (by omega)]; exact hc 1 _ rfl, l0, g0⟩
structure S86 where
  f0 : Int
  f1 : (List S139)
def z86 : S86 := ⟨(0 : Int), ([] : List S139)⟩
def k86 : Kd S86 := Kd.iso (Kd.pair (Kd.int .u32) (Kd.slice 139 k139)) (fun x : S86 => (x.f0, x.f1))
theorem UF {w : World} {x : S86} {cs : List Value} (h : k86.K w x cs) : ∃ A1 c1, cs = [.int .u32 x.f0, .slice A1 x.f1.length c1] ∧ x.f1.length ≤ c1 ∧ k139.C w A1 x.f1.length x.f1 := by
  obtain ⟨_, _, rfl, rfl, ⟨A1, c1, rfl, l1, g1⟩⟩ := h
  exact ⟨A1, c1, rfl, l1, g1⟩
theorem RN (w : World) (base : Nat) (ok : Nat → Prop) (x : S86) {v1 : Value} (g1 : k139.R 139 w base ok v1 x.f1) : k86.M w base ok x [.int .u32 x.f0, v1] := ⟨[.int .u32 x.f0], [v1], rfl, rfl, ⟨v1, rfl, g1⟩⟩
def iV (xs : List S86) (i : Int) : S86 := xs.getD i.toNat z86
theorem kS {w : World} {A : Option Addr} {n : Nat} {xs : List S86} (h : Kd.C k86 w A n xs) (i : Int) (h0 : 0 ≤ i) (h1 : i < n) : ∃ ad A1 c1, A = some ad ∧ w.cell? (ad.add (i.toNat * 2)) = some (.int .u32 (iV xs i).f0) ∧ w.cell? ⟨(ad.add (i.toNat * 2)).block, (ad.add (i.toNat * 2)).off + 1, none⟩ = some (.slice A1 (iV xs i).f1.length c1) ∧ (iV xs i).f1.length ≤ c1 ∧ k139.C w A1 (iV xs i).f1.length (iV xs i).f1 := by
  obtain ⟨ad, c, e, _, hK, hc0⟩ := Kd.C_get h z86 i h0 h1
  have hc : ∀ j u, c[j]? = some u → w.cell? (ad.add (i.toNat * 2 + j)) = some u := hc0
  obtain ⟨A1, c1, rfl, l1, g1⟩ := UF hK
  exact ⟨ad, A1, c1, e, hc 0 _ rfl, by rw [← xG _ _ 1 (by omega)]; exact hc 1 _ rfl, l1, g1⟩
structure S98 where
  f0 : Int
  f1 : Int
def z98 : S98 := ⟨(0 : Int), (0 : Int)⟩
def k98 : Kd S98 := Kd.iso (Kd.pair (Kd.int .i64) (Kd.int .i64)) (fun x : S98 => (x.f0, x.f1))
theorem TZ {w : World} {x : S98} {cs : List Value} (h : k98.K w x cs) : cs = [.int .i64 x.f0, .int .i64 x.f1] := by
  obtain ⟨_, _, rfl, rfl, rfl⟩ := h
  exact rfl
theorem QM (w : World) (base : Nat) (ok : Nat → Prop) (x : S98)  : k98.M w base ok x [.int .i64 x.f0, .int .i64 x.f1] := ⟨[.int .i64 x.f0], [.int .i64 x.f1], rfl, rfl, rfl⟩
def jU (xs : List S98) (i : Int) : S98 := xs.getD i.toNat z98
theorem lX {w : World} {A : Option Addr} {n : Nat} {xs : List S98} (h : Kd.C k98 w A n xs) (i : Int) (h0 : 0 ≤ i) (h1 : i < n) : ∃ ad , A = some ad ∧ w.cell? (ad.add (i.toNat * 2)) = some (.int .i64 (jU xs i).f0) ∧ w.cell? ⟨(ad.add (i.toNat * 2)).block, (ad.add (i.toNat * 2)).off + 1, none⟩ = some (.int .i64 (jU xs i).f1) := by
  obtain ⟨ad, c, e, _, hK, hc0⟩ := Kd.C_get h z98 i h0 h1
  have hc : ∀ j u, c[j]? = some u → w.cell? (ad.add (i.toNat * 2 + j)) = some u := hc0
  obtain rfl := TZ hK
  exact ⟨ad, e, hc 0 _ rfl, by rw [← xG _ _ 1 (by omega)]; exact hc 1 _ rfl⟩
end Go.Proofs.YtgfkgppomaapiaaDoor.K
end

section
namespace Go.Proofs.YtgfkgppomaapiaaDoor.K
open Go.RowKit Go.Proofs.YtgfkgppomaapiaaDoorW.PrintWords Go.Proofs.YtgfkgppomaapiaaDoorW.PrintLast Go.Proofs.YtgfkgppomaapiaaDoorW.PrintMore
attribute [local go_sem] kC kN
def stratumref07_SoundNodes.l0 : Nat → List Int → Int → Option (Bool)
  | 0, _, _ => none
  | k + 1, x0, x3 => if x3 < (x0.length : Int) then (if 0 ≤ x3 then (if (rd x0 x3) < 0 then (some false) else (if (rd x0 x3) > 5 then (some false) else (if x3 > 0 then (if 0 ≤ (wrap64 (x3 - 1)) then (if (wrap64 (x3 - 1)) < (x0.length : Int) then (if (rd x0 x3) ≤ (rd x0 (wrap64 (x3 - 1))) then (some false) else (stratumref07_SoundNodes.l0 k x0 (wrap64 (x3 + 1)))) else (none)) else (none)) else (stratumref07_SoundNodes.l0 k x0 (wrap64 (x3 + 1)))))) else (none)) else (some true)
def stratumref07_SoundNodes.f (k : Nat) (l0 : List Int) : Option (Bool) := stratumref07_SoundNodes.l0 k l0 0
set_option maxHeartbeats 8000000 in
set_option maxRecDepth 100000 in
theorem stratumref07_SoundNodes.calls (k : Nat) (A0 : Option Addr) (c0 : Nat) (l0 : List Int) (r : Bool) (w : World) (hr0 : Kd.C (Kd.int .i64) w A0 l0.length l0) (hc0 : l0.length ≤ c0) (h : stratumref07_SoundNodes.f k l0 = some r) :
    Calls Tryd.prog 69 #[.slice A0 l0.length c0] w fun e w' => e = .returned (.bool r) ∧ jC w w' := by
  have HR0 := iD.mk hr0
  have HC0 := iD.mk hc0
  clear hr0 hc0
  have H : (stratumref07_SoundNodes.l0 k l0 0) = some r := h
  clear h
  have H' := iD.mk H
  clear H
  go_enter Tryd.func69, Tryd.ntmps69
  go_wp2
  repeat (go_quiet (fail); try go_wp2)
  go_loopg [3] k (fun kq v3 w' => ∃ (x3_1 : Int), v3 = .int .i64 x3_1 ∧ iD (stratumref07_SoundNodes.l0 kq l0 x3_1 = some r) ∧ iD (kq ≤ k) ∧ jC w w')
  case atStart => exact ⟨(0), (by first | rfl | (simp; done) | (simp [*]; done)), H', ⟨Nat.le_refl _⟩, by repeat (first | exact jC.refl _ | apply jC.step)⟩
  case round =>
    clear H'
    obtain ⟨x3_1, rfl, HA, HK1, ⟨m1, rfl⟩⟩ := hrel
    cases gk with
    | zero => exact absurd HA.out (by simp [stratumref07_SoundNodes.l0])
    | succ k1 =>
      have H := HA.out
      clear HA
      simp only [stratumref07_SoundNodes.l0] at H
      by_cases c2 : x3_1 < (l0.length : Int)
      · rw [if_pos c2] at H
        have c2b0 : decide (x3_1 < (l0.length : Int)) = true := decide_eq_true c2
        clear c2
        by_cases c3 : 0 ≤ x3_1
        · rw [if_pos c3] at H
          have c3b0 : decide (0 ≤ x3_1) = true := decide_eq_true c3
          clear c3
          by_cases c4 : (rd l0 x3_1) < 0
          · rw [if_pos c4] at H
            have c4b0 : decide ((rd l0 x3_1) < 0) = true := decide_eq_true c4
            clear c4
            obtain rfl := Option.some.inj H
            have p117 : 0 ≤ (x3_1 : Int) := of_decide_eq_true asm_
            have q117 : x3_1 < (l0.length : Int) := of_decide_eq_true asm_
            obtain ⟨ad117, e117, hx117_0⟩ := Kd.at_int HR0.out x3_1 p117 q117
            cases e117
            replace p117 := eq_true p117
            replace q117 := eq_true q117
            go_wp2
            repeat (go_quiet (fail); try go_wp2)
            go_ret
            exact ⟨by first | rfl | (simp; done) | (simp [*]; done), by repeat (first | exact jC.refl _ | apply jC.step)⟩
          · rw [if_neg c4] at H
            have c4b0 : decide ((rd l0 x3_1) < 0) = false := decide_eq_false c4
            clear c4
            by_cases c5 : (rd l0 x3_1) > 5
            · rw [if_pos c5] at H
              have c5b0 : decide (5 < (rd l0 x3_1)) = true := decide_eq_true c5
              clear c5
              obtain rfl := Option.some.inj H
              have p117 : 0 ≤ (x3_1 : Int) := of_decide_eq_true asm_
              have q117 : x3_1 < (l0.length : Int) := of_decide_eq_true asm_
              obtain ⟨ad117, e117, hx117_0⟩ := Kd.at_int HR0.out x3_1 p117 q117
              cases e117
              replace p117 := eq_true p117
              replace q117 := eq_true q117
              have p118 : 0 ≤ (x3_1 : Int) := of_decide_eq_true asm_
              have q118 : x3_1 < (l0.length : Int) := of_decide_eq_true asm_
              obtain ⟨ad118, e118, hx118_0⟩ := Kd.at_int HR0.out x3_1 p118 q118
              obtain rfl : ad117 = ad118 := (by injection e118)
              replace p118 := eq_true p118
              replace q118 := eq_true q118
              go_wp2
              repeat (go_quiet (fail); try go_wp2)
              go_ret
              exact ⟨by first | rfl | (simp; done) | (simp [*]; done), by repeat (first | exact jC.refl _ | apply jC.step)⟩
            · rw [if_neg c5] at H
              have c5b0 : decide (5 < (rd l0 x3_1)) = false := decide_eq_false c5
              clear c5
              by_cases c6 : x3_1 > 0
              · rw [if_pos c6] at H
                have c6b0 : decide (0 < x3_1) = true := decide_eq_true c6
                clear c6
                obtain ⟨ji7, hji7⟩ : ∃ j_ : Int, (wrap64 (x3_1 - 1)) = j_ := ⟨_, rfl⟩
                replace H : (if 0 ≤ (ji7) then (if (ji7) < (l0.length : Int) then (if (rd l0 x3_1) ≤ (rd l0 (ji7)) then (some false) else (stratumref07_SoundNodes.l0 k1 l0 (wrap64 (x3_1 + 1)))) else (none)) else (none)) = some r := by first | (rw [hji7] at H; exact H) | (simp only [hji7] at H ⊢; exact H)
                have hji7w : (IntKind.i64.wrap (x3_1 - 1)) = ji7 := (iY _).trans hji7
                by_cases c8 : 0 ≤ (ji7)
                · rw [if_pos c8] at H
                  have c8b0 : decide (0 ≤ (ji7)) = true := decide_eq_true c8
                  clear c8
                  by_cases c9 : (ji7) < (l0.length : Int)
                  · rw [if_pos c9] at H
                    have c9b0 : decide ((ji7) < (l0.length : Int)) = true := decide_eq_true c9
                    clear c9
                    by_cases c10 : (rd l0 x3_1) ≤ (rd l0 (ji7))
                    · rw [if_pos c10] at H
                      have c10b0 : decide ((rd l0 x3_1) ≤ (rd l0 (ji7))) = true := decide_eq_true c10
                      clear c10
                      obtain rfl := Option.some.inj H
                      have p117 : 0 ≤ (x3_1 : Int) := of_decide_eq_true asm_
                      have q117 : x3_1 < (l0.length : Int) := of_decide_eq_true asm_
                      obtain ⟨ad117, e117, hx117_0⟩ := Kd.at_int HR0.out x3_1 p117 q117
                      cases e117
                      replace p117 := eq_true p117
                      replace q117 := eq_true q117
                      have p118 : 0 ≤ (x3_1 : Int) := of_decide_eq_true asm_
                      have q118 : x3_1 < (l0.length : Int) := of_decide_eq_true asm_
                      obtain ⟨ad118, e118, hx118_0⟩ := Kd.at_int HR0.out x3_1 p118 q118
                      obtain rfl : ad117 = ad118 := (by injection e118)
                      replace p118 := eq_true p118
                      replace q118 := eq_true q118
                      have p119 : 0 ≤ (x3_1 : Int) := of_decide_eq_true asm_
                      have q119 : x3_1 < (l0.length : Int) := of_decide_eq_true asm_
                      obtain ⟨ad119, e119, hx119_0⟩ := Kd.at_int HR0.out x3_1 p119 q119
                      obtain rfl : ad117 = ad119 := (by injection e119)
                      replace p119 := eq_true p119
                      replace q119 := eq_true q119
                      have p120 : 0 ≤ ((ji7) : Int) := of_decide_eq_true asm_
                      have q120 : (ji7) < (l0.length : Int) := of_decide_eq_true asm_
                      obtain ⟨ad120, e120, hx120_0⟩ := Kd.at_int HR0.out (ji7) p120 q120
                      obtain rfl : ad117 = ad120 := (by injection e120)
                      replace p120 := eq_true p120
                      replace q120 := eq_true q120
                      go_wp2
                      repeat (go_quiet (fail); try go_wp2)
                      go_ret
                      exact ⟨by first | rfl | (simp; done) | (simp only [← hji7] <;> (first | rfl | simp)) | (simp [*]; done), by repeat (first | exact jC.refl _ | apply jC.step)⟩
                    · rw [if_neg c10] at H
                      have c10b0 : decide ((rd l0 x3_1) ≤ (rd l0 (ji7))) = false := decide_eq_false c10
                      clear c10
                      have H' := iD.mk H
                      clear H
                      have p117 : 0 ≤ (x3_1 : Int) := of_decide_eq_true asm_
                      have q117 : x3_1 < (l0.length : Int) := of_decide_eq_true asm_
                      obtain ⟨ad117, e117, hx117_0⟩ := Kd.at_int HR0.out x3_1 p117 q117
                      cases e117
                      replace p117 := eq_true p117
                      replace q117 := eq_true q117
                      have p118 : 0 ≤ (x3_1 : Int) := of_decide_eq_true asm_
                      have q118 : x3_1 < (l0.length : Int) := of_decide_eq_true asm_
                      obtain ⟨ad118, e118, hx118_0⟩ := Kd.at_int HR0.out x3_1 p118 q118
                      obtain rfl : ad117 = ad118 := (by injection e118)
                      replace p118 := eq_true p118
                      replace q118 := eq_true q118
                      have p119 : 0 ≤ (x3_1 : Int) := of_decide_eq_true asm_
                      have q119 : x3_1 < (l0.length : Int) := of_decide_eq_true asm_
                      obtain ⟨ad119, e119, hx119_0⟩ := Kd.at_int HR0.out x3_1 p119 q119
                      obtain rfl : ad117 = ad119 := (by injection e119)
                      replace p119 := eq_true p119
                      replace q119 := eq_true q119
                      have p120 : 0 ≤ ((ji7) : Int) := of_decide_eq_true asm_
                      have q120 : (ji7) < (l0.length : Int) := of_decide_eq_true asm_
                      obtain ⟨ad120, e120, hx120_0⟩ := Kd.at_int HR0.out (ji7) p120 q120
                      obtain rfl : ad117 = ad120 := (by injection e120)
                      replace p120 := eq_true p120
                      replace q120 := eq_true q120
                      go_wp2
                      repeat (go_quiet (fail); try go_wp2)
                      go_roundg k1
                      case measure => have := HK1.out; omega
                      case rel => exact ⟨(wrap64 (x3_1 + 1)), (by first | rfl | (simp; done) | (simp [*]; done)), H', ⟨by have := HK1.out; omega⟩, by repeat (first | exact jC.refl _ | apply jC.step)⟩
                  · rw [if_neg c9] at H
                    exact absurd H (by simp)
                · rw [if_neg c8] at H
                  exact absurd H (by simp)
              · rw [if_neg c6] at H
                have c6b0 : decide (0 < x3_1) = false := decide_eq_false c6
                clear c6
                have H' := iD.mk H
                clear H
                have p117 : 0 ≤ (x3_1 : Int) := of_decide_eq_true asm_
                have q117 : x3_1 < (l0.length : Int) := of_decide_eq_true asm_
                obtain ⟨ad117, e117, hx117_0⟩ := Kd.at_int HR0.out x3_1 p117 q117
                cases e117
                replace p117 := eq_true p117
                replace q117 := eq_true q117
                have p118 : 0 ≤ (x3_1 : Int) := of_decide_eq_true asm_
                have q118 : x3_1 < (l0.length : Int) := of_decide_eq_true asm_
                obtain ⟨ad118, e118, hx118_0⟩ := Kd.at_int HR0.out x3_1 p118 q118
                obtain rfl : ad117 = ad118 := (by injection e118)
                replace p118 := eq_true p118
                replace q118 := eq_true q118
                go_wp2
                repeat (go_quiet (fail); try go_wp2)
                go_roundg k1
                case measure => have := HK1.out; omega
                case rel => exact ⟨(wrap64 (x3_1 + 1)), (by first | rfl | (simp; done) | (simp [*]; done)), H', ⟨by have := HK1.out; omega⟩, by repeat (first | exact jC.refl _ | apply jC.step)⟩
        · rw [if_neg c3] at H
          exact absurd H (by simp)
      · rw [if_neg c2] at H
        have c2b0 : decide (x3_1 < (l0.length : Int)) = false := decide_eq_false c2
        clear c2
        obtain rfl := Option.some.inj H
        go_wp2
        repeat (go_quiet (fail); try go_wp2)
        go_ret
        exact ⟨by first | rfl | (simp; done) | (simp [*]; done), by repeat (first | exact jC.refl _ | apply jC.step)⟩
end Go.Proofs.YtgfkgppomaapiaaDoor.K
end

section
namespace Go.Proofs.YtgfkgppomaapiaaDoor.K
open Go.RowKit Go.Proofs.YtgfkgppomaapiaaDoorW.PrintWords Go.Proofs.YtgfkgppomaapiaaDoorW.PrintLast Go.Proofs.YtgfkgppomaapiaaDoorW.PrintMore
attribute [local go_sem] kC kN
mutual
def stratumref07_SoundFacts.l0 : Nat → List (S139) → Int → Option (Bool)
  | 0, _, _ => none
  | k + 1, x0, x3 => if x3 < (x0.length : Int) then (stratumref07_SoundFacts.l1 k x0 x3 0) else (some (decide ((x0.length : Int) ≤ 200)))
def stratumref07_SoundFacts.l1 : Nat → List (S139) → Int → Int → Option (Bool)
  | 0, _, _, _ => none
  | k + 1, x0, x3, x4 => if 0 ≤ x3 then (if x3 < (x0.length : Int) then (if x4 < (((iU x0 x3).f0).length : Int) then (if 0 ≤ x4 then (if (rd ((iU x0 x3).f0) x4) < 0 then (some false) else (if (rd ((iU x0 x3).f0) x4) > 9999 then (some false) else (stratumref07_SoundFacts.l1 k x0 x3 (wrap64 (x4 + 1))))) else (none)) else (if (((iU x0 x3).f0).length : Int) > 4 then (some false) else (stratumref07_SoundFacts.l0 k x0 (wrap64 (x3 + 1))))) else (none)) else (none)
end
def stratumref07_SoundFacts.f (k : Nat) (l0 : List (S139)) : Option (Bool) := stratumref07_SoundFacts.l0 k l0 0
set_option maxHeartbeats 8000000 in
set_option maxRecDepth 100000 in
theorem stratumref07_SoundFacts.calls (k : Nat) (A0 : Option Addr) (c0 : Nat) (l0 : List (S139)) (r : Bool) (w : World) (hr0 : Kd.C k139 w A0 l0.length l0) (hc0 : l0.length ≤ c0) (h : stratumref07_SoundFacts.f k l0 = some r) :
    Calls Tryd.prog 70 #[.slice A0 l0.length c0] w fun e w' => e = .returned (.bool r) ∧ jC w w' := by
  have HR0 := iD.mk hr0
  have HC0 := iD.mk hc0
  clear hr0 hc0
  have H : (stratumref07_SoundFacts.l0 k l0 0) = some r := h
  clear h
  have H' := iD.mk H
  clear H
  go_enter Tryd.func70, Tryd.ntmps70
  go_wp2
  go_loopg [3] k (fun kq v3 w' => ∃ (x3_1 : Int), v3 = .int .i64 x3_1 ∧ iD (stratumref07_SoundFacts.l0 kq l0 x3_1 = some r) ∧ iD (kq ≤ k) ∧ jC w w')
  case atStart => exact ⟨(0), (by first | rfl | (simp; done) | (simp [*]; done)), H', ⟨Nat.le_refl _⟩, by repeat (first | exact jC.refl _ | apply jC.step)⟩
  case round =>
    clear H'
    obtain ⟨x3_1, rfl, HA, HK1, ⟨m1, rfl⟩⟩ := hrel
    cases gk with
    | zero => exact absurd HA.out (by simp [stratumref07_SoundFacts.l0])
    | succ k1 =>
      have H := HA.out
      clear HA
      simp only [stratumref07_SoundFacts.l0] at H
      by_cases c2 : x3_1 < (l0.length : Int)
      · rw [if_pos c2] at H
        have c2b0 : decide (x3_1 < (l0.length : Int)) = true := decide_eq_true c2
        clear c2
        have H' := iD.mk H
        clear H
        go_wp2
        go_loopg [4] k1 (fun kq v4 w' => ∃ (x4_2 : Int), v4 = .int .i64 x4_2 ∧ iD (stratumref07_SoundFacts.l1 kq l0 x3_1 x4_2 = some r) ∧ iD (kq ≤ k1) ∧ jC w w')
        case atStart => exact ⟨(0), (by first | rfl | (simp; done) | (simp [*]; done)), H', ⟨Nat.le_refl _⟩, by repeat (first | exact jC.refl _ | apply jC.step)⟩
        case round =>
          clear H'
          try clear c2
          try clear c2b0
          try clear p2
          obtain ⟨x4_2, rfl, HA, HK2, ⟨m2, rfl⟩⟩ := hrel
          cases gk with
          | zero => exact absurd HA.out (by simp [stratumref07_SoundFacts.l1])
          | succ k2 =>
            have H := HA.out
            clear HA
            simp only [stratumref07_SoundFacts.l1] at H
            by_cases c3 : 0 ≤ x3_1
            · rw [if_pos c3] at H
              have c3b0 : decide (0 ≤ x3_1) = true := decide_eq_true c3
              clear c3
              by_cases c4 : x3_1 < (l0.length : Int)
              · rw [if_pos c4] at H
                have c4b0 : decide (x3_1 < (l0.length : Int)) = true := decide_eq_true c4
                clear c4
                by_cases c5 : x4_2 < (((iU l0 x3_1).f0).length : Int)
                · rw [if_pos c5] at H
                  have c5b0 : decide (x4_2 < (((iU l0 x3_1).f0).length : Int)) = true := decide_eq_true c5
                  clear c5
                  by_cases c6 : 0 ≤ x4_2
                  · rw [if_pos c6] at H
                    have c6b0 : decide (0 ≤ x4_2) = true := decide_eq_true c6
                    clear c6
                    by_cases c7 : (rd ((iU l0 x3_1).f0) x4_2) < 0
                    · rw [if_pos c7] at H
                      have c7b0 : decide ((rd ((iU l0 x3_1).f0) x4_2) < 0) = true := decide_eq_true c7
                      clear c7
                      obtain rfl := Option.some.inj H
                      have p121 : 0 ≤ (x3_1 : Int) := of_decide_eq_true asm_
                      have q121 : x3_1 < (l0.length : Int) := of_decide_eq_true asm_
                      obtain ⟨ad121, A121_0, c121_0, e121, hx121_0, hx121_1, hl121_0, hi121_0⟩ := kG HR0.out x3_1 p121 q121
                      cases e121
                      have HR121_0 := iD.mk hi121_0
                      have HC121_0 := iD.mk hl121_0
                      clear hi121_0 hl121_0
                      replace p121 := eq_true p121
                      replace q121 := eq_true q121
                      have p122 : 0 ≤ (x3_1 : Int) := of_decide_eq_true asm_
                      have q122 : x3_1 < (l0.length : Int) := of_decide_eq_true asm_
                      obtain ⟨ad122, A122_0, c122_0, e122, hx122_0, hx122_1, hl122_0, hi122_0⟩ := kG HR0.out x3_1 p122 q122
                      obtain rfl : ad121 = ad122 := (by injection e122)
                      have HR122_0 := iD.mk hi122_0
                      have HC122_0 := iD.mk hl122_0
                      clear hi122_0 hl122_0
                      replace p122 := eq_true p122
                      replace q122 := eq_true q122
                      have ea_ := Option.some.inj (hx121_0.symm.trans hx122_0)
                      injection ea_ with ea_ en_ ec_
                      subst ea_
                      subst ec_
                      clear en_
                      have p123 : 0 ≤ (x4_2 : Int) := of_decide_eq_true asm_
                      have q123 : x4_2 < (((iU l0 x3_1).f0).length : Int) := of_decide_eq_true asm_
                      obtain ⟨ad123, e123, hx123_0⟩ := Kd.at_int HR122_0.out x4_2 p123 q123
                      cases e123
                      replace p123 := eq_true p123
                      replace q123 := eq_true q123
                      go_wp2
                      go_ret
                      exact ⟨by first | rfl | (simp; done) | (simp [*]; done), by repeat (first | exact jC.refl _ | apply jC.step)⟩
                    · rw [if_neg c7] at H
                      have c7b0 : decide ((rd ((iU l0 x3_1).f0) x4_2) < 0) = false := decide_eq_false c7
                      clear c7
                      by_cases c8 : (rd ((iU l0 x3_1).f0) x4_2) > 9999
                      · rw [if_pos c8] at H
                        have c8b0 : decide (9999 < (rd ((iU l0 x3_1).f0) x4_2)) = true := decide_eq_true c8
                        clear c8
                        obtain rfl := Option.some.inj H
                        have p121 : 0 ≤ (x3_1 : Int) := of_decide_eq_true asm_
                        have q121 : x3_1 < (l0.length : Int) := of_decide_eq_true asm_
                        obtain ⟨ad121, A121_0, c121_0, e121, hx121_0, hx121_1, hl121_0, hi121_0⟩ := kG HR0.out x3_1 p121 q121
                        cases e121
                        have HR121_0 := iD.mk hi121_0
                        have HC121_0 := iD.mk hl121_0
                        clear hi121_0 hl121_0
                        replace p121 := eq_true p121
                        replace q121 := eq_true q121
                        have p122 : 0 ≤ (x3_1 : Int) := of_decide_eq_true asm_
                        have q122 : x3_1 < (l0.length : Int) := of_decide_eq_true asm_
                        obtain ⟨ad122, A122_0, c122_0, e122, hx122_0, hx122_1, hl122_0, hi122_0⟩ := kG HR0.out x3_1 p122 q122
                        obtain rfl : ad121 = ad122 := (by injection e122)
                        have HR122_0 := iD.mk hi122_0
                        have HC122_0 := iD.mk hl122_0
                        clear hi122_0 hl122_0
                        replace p122 := eq_true p122
                        replace q122 := eq_true q122
                        have ea_ := Option.some.inj (hx121_0.symm.trans hx122_0)
                        injection ea_ with ea_ en_ ec_
                        subst ea_
                        subst ec_
                        clear en_
                        have p123 : 0 ≤ (x4_2 : Int) := of_decide_eq_true asm_
                        have q123 : x4_2 < (((iU l0 x3_1).f0).length : Int) := of_decide_eq_true asm_
                        obtain ⟨ad123, e123, hx123_0⟩ := Kd.at_int HR122_0.out x4_2 p123 q123
                        cases e123
                        replace p123 := eq_true p123
                        replace q123 := eq_true q123
                        have p124 : 0 ≤ (x3_1 : Int) := of_decide_eq_true asm_
                        have q124 : x3_1 < (l0.length : Int) := of_decide_eq_true asm_
                        obtain ⟨ad124, A124_0, c124_0, e124, hx124_0, hx124_1, hl124_0, hi124_0⟩ := kG HR0.out x3_1 p124 q124
                        obtain rfl : ad121 = ad124 := (by injection e124)
                        have HR124_0 := iD.mk hi124_0
                        have HC124_0 := iD.mk hl124_0
                        clear hi124_0 hl124_0
                        replace p124 := eq_true p124
                        replace q124 := eq_true q124
                        have ea_ := Option.some.inj (hx121_0.symm.trans hx124_0)
                        injection ea_ with ea_ en_ ec_
                        subst ea_
                        subst ec_
                        clear en_
                        have p125 : 0 ≤ (x4_2 : Int) := of_decide_eq_true asm_
                        have q125 : x4_2 < (((iU l0 x3_1).f0).length : Int) := of_decide_eq_true asm_
                        obtain ⟨ad125, e125, hx125_0⟩ := Kd.at_int HR124_0.out x4_2 p125 q125
                        cases e125
                        replace p125 := eq_true p125
                        replace q125 := eq_true q125
                        go_wp2
                        go_ret
                        exact ⟨by first | rfl | (simp; done) | (simp [*]; done), by repeat (first | exact jC.refl _ | apply jC.step)⟩
                      · rw [if_neg c8] at H
                        have c8b0 : decide (9999 < (rd ((iU l0 x3_1).f0) x4_2)) = false := decide_eq_false c8
                        clear c8
                        have H' := iD.mk H
                        clear H
                        have p121 : 0 ≤ (x3_1 : Int) := of_decide_eq_true asm_
                        have q121 : x3_1 < (l0.length : Int) := of_decide_eq_true asm_
                        obtain ⟨ad121, A121_0, c121_0, e121, hx121_0, hx121_1, hl121_0, hi121_0⟩ := kG HR0.out x3_1 p121 q121
                        cases e121
                        have HR121_0 := iD.mk hi121_0
                        have HC121_0 := iD.mk hl121_0
                        clear hi121_0 hl121_0
                        replace p121 := eq_true p121
                        replace q121 := eq_true q121
                        have p122 : 0 ≤ (x3_1 : Int) := of_decide_eq_true asm_
                        have q122 : x3_1 < (l0.length : Int) := of_decide_eq_true asm_
                        obtain ⟨ad122, A122_0, c122_0, e122, hx122_0, hx122_1, hl122_0, hi122_0⟩ := kG HR0.out x3_1 p122 q122
                        obtain rfl : ad121 = ad122 := (by injection e122)
                        have HR122_0 := iD.mk hi122_0
                        have HC122_0 := iD.mk hl122_0
                        clear hi122_0 hl122_0
                        replace p122 := eq_true p122
                        replace q122 := eq_true q122
                        have ea_ := Option.some.inj (hx121_0.symm.trans hx122_0)
                        injection ea_ with ea_ en_ ec_
                        subst ea_
                        subst ec_
                        clear en_
                        have p123 : 0 ≤ (x4_2 : Int) := of_decide_eq_true asm_
                        have q123 : x4_2 < (((iU l0 x3_1).f0).length : Int) := of_decide_eq_true asm_
                        obtain ⟨ad123, e123, hx123_0⟩ := Kd.at_int HR122_0.out x4_2 p123 q123
                        cases e123
                        replace p123 := eq_true p123
                        replace q123 := eq_true q123
                        have p124 : 0 ≤ (x3_1 : Int) := of_decide_eq_true asm_
                        have q124 : x3_1 < (l0.length : Int) := of_decide_eq_true asm_
                        obtain ⟨ad124, A124_0, c124_0, e124, hx124_0, hx124_1, hl124_0, hi124_0⟩ := kG HR0.out x3_1 p124 q124
                        obtain rfl : ad121 = ad124 := (by injection e124)
                        have HR124_0 := iD.mk hi124_0
                        have HC124_0 := iD.mk hl124_0
                        clear hi124_0 hl124_0
                        replace p124 := eq_true p124
                        replace q124 := eq_true q124
                        have ea_ := Option.some.inj (hx121_0.symm.trans hx124_0)
                        injection ea_ with ea_ en_ ec_
                        subst ea_
                        subst ec_
                        clear en_
                        have p125 : 0 ≤ (x4_2 : Int) := of_decide_eq_true asm_
                        have q125 : x4_2 < (((iU l0 x3_1).f0).length : Int) := of_decide_eq_true asm_
                        obtain ⟨ad125, e125, hx125_0⟩ := Kd.at_int HR124_0.out x4_2 p125 q125
                        cases e125
                        replace p125 := eq_true p125
                        replace q125 := eq_true q125
                        go_wp2
                        go_roundg k2
                        case measure => have := HK1.out; have := HK2.out; omega
                        case rel => exact ⟨(wrap64 (x4_2 + 1)), (by first | rfl | (simp; done) | (simp [*]; done)), H', ⟨by have := HK1.out; have := HK2.out; omega⟩, by repeat (first | exact jC.refl _ | apply jC.step)⟩
                  · rw [if_neg c6] at H
                    exact absurd H (by simp)
                · rw [if_neg c5] at H
                  have c5b0 : decide (x4_2 < (((iU l0 x3_1).f0).length : Int)) = false := decide_eq_false c5
                  clear c5
                  by_cases c9 : (((iU l0 x3_1).f0).length : Int) > 4
                  · rw [if_pos c9] at H
                    have c9b0 : decide (4 < (((iU l0 x3_1).f0).length : Int)) = true := decide_eq_true c9
                    have c9b1 : decide (4 < ((iU l0 x3_1).f0).length) = true := decide_eq_true (by omega)
                    clear c9
                    obtain rfl := Option.some.inj H
                    have p121 : 0 ≤ (x3_1 : Int) := of_decide_eq_true asm_
                    have q121 : x3_1 < (l0.length : Int) := of_decide_eq_true asm_
                    obtain ⟨ad121, A121_0, c121_0, e121, hx121_0, hx121_1, hl121_0, hi121_0⟩ := kG HR0.out x3_1 p121 q121
                    cases e121
                    have HR121_0 := iD.mk hi121_0
                    have HC121_0 := iD.mk hl121_0
                    clear hi121_0 hl121_0
                    replace p121 := eq_true p121
                    replace q121 := eq_true q121
                    have p126 : 0 ≤ (x3_1 : Int) := of_decide_eq_true asm_
                    have q126 : x3_1 < (l0.length : Int) := of_decide_eq_true asm_
                    obtain ⟨ad126, A126_0, c126_0, e126, hx126_0, hx126_1, hl126_0, hi126_0⟩ := kG HR0.out x3_1 p126 q126
                    obtain rfl : ad121 = ad126 := (by injection e126)
                    have HR126_0 := iD.mk hi126_0
                    have HC126_0 := iD.mk hl126_0
                    clear hi126_0 hl126_0
                    replace p126 := eq_true p126
                    replace q126 := eq_true q126
                    have ea_ := Option.some.inj (hx121_0.symm.trans hx126_0)
                    injection ea_ with ea_ en_ ec_
                    subst ea_
                    subst ec_
                    clear en_
                    go_wp2
                    go_ret
                    exact ⟨by first | rfl | (simp; done) | (simp [*]; done), by repeat (first | exact jC.refl _ | apply jC.step)⟩
                  · rw [if_neg c9] at H
                    have c9b0 : decide (4 < (((iU l0 x3_1).f0).length : Int)) = false := decide_eq_false c9
                    have c9b1 : decide (4 < ((iU l0 x3_1).f0).length) = false := decide_eq_false (by omega)
                    clear c9
                    have H' := iD.mk H
                    clear H
                    have p121 : 0 ≤ (x3_1 : Int) := of_decide_eq_true asm_
                    have q121 : x3_1 < (l0.length : Int) := of_decide_eq_true asm_
                    obtain ⟨ad121, A121_0, c121_0, e121, hx121_0, hx121_1, hl121_0, hi121_0⟩ := kG HR0.out x3_1 p121 q121
                    cases e121
                    have HR121_0 := iD.mk hi121_0
                    have HC121_0 := iD.mk hl121_0
                    clear hi121_0 hl121_0
                    replace p121 := eq_true p121
                    replace q121 := eq_true q121
                    have p126 : 0 ≤ (x3_1 : Int) := of_decide_eq_true asm_
                    have q126 : x3_1 < (l0.length : Int) := of_decide_eq_true asm_
                    obtain ⟨ad126, A126_0, c126_0, e126, hx126_0, hx126_1, hl126_0, hi126_0⟩ := kG HR0.out x3_1 p126 q126
                    obtain rfl : ad121 = ad126 := (by injection e126)
                    have HR126_0 := iD.mk hi126_0
                    have HC126_0 := iD.mk hl126_0
                    clear hi126_0 hl126_0
                    replace p126 := eq_true p126
                    replace q126 := eq_true q126
                    have ea_ := Option.some.inj (hx121_0.symm.trans hx126_0)
                    injection ea_ with ea_ en_ ec_
                    subst ea_
                    subst ec_
                    clear en_
                    go_wp2
                    go_roundg k2
                    case measure => have := HK1.out; have := HK2.out; omega
                    case rel => exact ⟨(wrap64 (x3_1 + 1)), (by first | rfl | (simp; done) | (simp [*]; done)), H', ⟨by have := HK1.out; have := HK2.out; omega⟩, by repeat (first | exact jC.refl _ | apply jC.step)⟩
              · rw [if_neg c4] at H
                exact absurd H (by simp)
            · rw [if_neg c3] at H
              exact absurd H (by simp)
      · rw [if_neg c2] at H
        have c2b0 : decide (x3_1 < (l0.length : Int)) = false := decide_eq_false c2
        clear c2
        obtain rfl := Option.some.inj H
        go_wp2
        go_ret
        exact ⟨by first | rfl | (simp; done) | (simp [*]; done), by repeat (first | exact jC.refl _ | apply jC.step)⟩
end Go.Proofs.YtgfkgppomaapiaaDoor.K
end

section
namespace Go.Proofs.YtgfkgppomaapiaaDoor.K
open Go.RowKit Go.Proofs.YtgfkgppomaapiaaDoorW.PrintWords Go.Proofs.YtgfkgppomaapiaaDoorW.PrintLast Go.Proofs.YtgfkgppomaapiaaDoorW.PrintMore
attribute [local go_sem] kC kN
def stratumref07_spans.l0 : Nat → List (S98) → Int → Option (Bool)
  | 0, _, _ => none
  | k + 1, x0, x3 => if x3 < (x0.length : Int) then (if 0 ≤ x3 then (if ((jU x0 x3).f0) < 0 then (some false) else (if ((jU x0 x3).f0) > 9999 then (some false) else (if ((jU x0 x3).f1) < 0 then (some false) else (if ((jU x0 x3).f1) > 5 then (some false) else (stratumref07_spans.l0 k x0 (wrap64 (x3 + 1))))))) else (none)) else (some (decide ((x0.length : Int) ≤ 40)))
def stratumref07_spans.f (k : Nat) (l0 : List (S98)) : Option (Bool) := stratumref07_spans.l0 k l0 0
set_option maxHeartbeats 8000000 in
set_option maxRecDepth 100000 in
theorem stratumref07_spans.calls (k : Nat) (A0 : Option Addr) (c0 : Nat) (l0 : List (S98)) (r : Bool) (w : World) (hr0 : Kd.C k98 w A0 l0.length l0) (hc0 : l0.length ≤ c0) (h : stratumref07_spans.f k l0 = some r) :
    Calls Tryd.prog 71 #[.slice A0 l0.length c0] w fun e w' => e = .returned (.bool r) ∧ jC w w' := by
  have HR0 := iD.mk hr0
  have HC0 := iD.mk hc0
  clear hr0 hc0
  have H : (stratumref07_spans.l0 k l0 0) = some r := h
  clear h
  have H' := iD.mk H
  clear H
  go_enter Tryd.func71, Tryd.ntmps71
  go_wp2
  go_loopg [3] k (fun kq v3 w' => ∃ (x3_1 : Int), v3 = .int .i64 x3_1 ∧ iD (stratumref07_spans.l0 kq l0 x3_1 = some r) ∧ iD (kq ≤ k) ∧ jC w w')
  case atStart => exact ⟨(0), (by first | rfl | (simp; done) | (simp [*]; done)), H', ⟨Nat.le_refl _⟩, by repeat (first | exact jC.refl _ | apply jC.step)⟩
  case round =>
    clear H'
    obtain ⟨x3_1, rfl, HA, HK1, ⟨m1, rfl⟩⟩ := hrel
    cases gk with
    | zero => exact absurd HA.out (by simp [stratumref07_spans.l0])
    | succ k1 =>
      have H := HA.out
      clear HA
      simp only [stratumref07_spans.l0] at H
      by_cases c2 : x3_1 < (l0.length : Int)
      · rw [if_pos c2] at H
        have c2b0 : decide (x3_1 < (l0.length : Int)) = true := decide_eq_true c2
        clear c2
        by_cases c3 : 0 ≤ x3_1
        · rw [if_pos c3] at H
          have c3b0 : decide (0 ≤ x3_1) = true := decide_eq_true c3
          clear c3
          by_cases c4 : ((jU l0 x3_1).f0) < 0
          · rw [if_pos c4] at H
            have c4b0 : decide (((jU l0 x3_1).f0) < 0) = true := decide_eq_true c4
            clear c4
            obtain rfl := Option.some.inj H
            have p127 : 0 ≤ (x3_1 : Int) := of_decide_eq_true asm_
            have q127 : x3_1 < (l0.length : Int) := of_decide_eq_true asm_
            obtain ⟨ad127, e127, hx127_0, hx127_1⟩ := lX HR0.out x3_1 p127 q127
            cases e127
            replace p127 := eq_true p127
            replace q127 := eq_true q127
            go_wp2
            go_ret
            exact ⟨by first | rfl | (simp; done) | (simp [*]; done), by repeat (first | exact jC.refl _ | apply jC.step)⟩
          · rw [if_neg c4] at H
            have c4b0 : decide (((jU l0 x3_1).f0) < 0) = false := decide_eq_false c4
            clear c4
            by_cases c5 : ((jU l0 x3_1).f0) > 9999
            · rw [if_pos c5] at H
              have c5b0 : decide (9999 < ((jU l0 x3_1).f0)) = true := decide_eq_true c5
              clear c5
              obtain rfl := Option.some.inj H
              have p127 : 0 ≤ (x3_1 : Int) := of_decide_eq_true asm_
              have q127 : x3_1 < (l0.length : Int) := of_decide_eq_true asm_
              obtain ⟨ad127, e127, hx127_0, hx127_1⟩ := lX HR0.out x3_1 p127 q127
              cases e127
              replace p127 := eq_true p127
              replace q127 := eq_true q127
              have p128 : 0 ≤ (x3_1 : Int) := of_decide_eq_true asm_
              have q128 : x3_1 < (l0.length : Int) := of_decide_eq_true asm_
              obtain ⟨ad128, e128, hx128_0, hx128_1⟩ := lX HR0.out x3_1 p128 q128
              obtain rfl : ad127 = ad128 := (by injection e128)
              replace p128 := eq_true p128
              replace q128 := eq_true q128
              go_wp2
              go_ret
              exact ⟨by first | rfl | (simp; done) | (simp [*]; done), by repeat (first | exact jC.refl _ | apply jC.step)⟩
            · rw [if_neg c5] at H
              have c5b0 : decide (9999 < ((jU l0 x3_1).f0)) = false := decide_eq_false c5
              clear c5
              by_cases c6 : ((jU l0 x3_1).f1) < 0
              · rw [if_pos c6] at H
                have c6b0 : decide (((jU l0 x3_1).f1) < 0) = true := decide_eq_true c6
                clear c6
                obtain rfl := Option.some.inj H
                have p127 : 0 ≤ (x3_1 : Int) := of_decide_eq_true asm_
                have q127 : x3_1 < (l0.length : Int) := of_decide_eq_true asm_
                obtain ⟨ad127, e127, hx127_0, hx127_1⟩ := lX HR0.out x3_1 p127 q127
                cases e127
                replace p127 := eq_true p127
                replace q127 := eq_true q127
                have p128 : 0 ≤ (x3_1 : Int) := of_decide_eq_true asm_
                have q128 : x3_1 < (l0.length : Int) := of_decide_eq_true asm_
                obtain ⟨ad128, e128, hx128_0, hx128_1⟩ := lX HR0.out x3_1 p128 q128
                obtain rfl : ad127 = ad128 := (by injection e128)
                replace p128 := eq_true p128
                replace q128 := eq_true q128
                have p129 : 0 ≤ (x3_1 : Int) := of_decide_eq_true asm_
                have q129 : x3_1 < (l0.length : Int) := of_decide_eq_true asm_
                obtain ⟨ad129, e129, hx129_0, hx129_1⟩ := lX HR0.out x3_1 p129 q129
                obtain rfl : ad127 = ad129 := (by injection e129)
                replace p129 := eq_true p129
                replace q129 := eq_true q129
                go_wp2
                go_ret
                exact ⟨by first | rfl | (simp; done) | (simp [*]; done), by repeat (first | exact jC.refl _ | apply jC.step)⟩
              · rw [if_neg c6] at H
                have c6b0 : decide (((jU l0 x3_1).f1) < 0) = false := decide_eq_false c6
                clear c6
                by_cases c7 : ((jU l0 x3_1).f1) > 5
                · rw [if_pos c7] at H
                  have c7b0 : decide (5 < ((jU l0 x3_1).f1)) = true := decide_eq_true c7
                  clear c7
                  obtain rfl := Option.some.inj H
                  have p127 : 0 ≤ (x3_1 : Int) := of_decide_eq_true asm_
                  have q127 : x3_1 < (l0.length : Int) := of_decide_eq_true asm_
                  obtain ⟨ad127, e127, hx127_0, hx127_1⟩ := lX HR0.out x3_1 p127 q127
                  cases e127
                  replace p127 := eq_true p127
                  replace q127 := eq_true q127
                  have p128 : 0 ≤ (x3_1 : Int) := of_decide_eq_true asm_
                  have q128 : x3_1 < (l0.length : Int) := of_decide_eq_true asm_
                  obtain ⟨ad128, e128, hx128_0, hx128_1⟩ := lX HR0.out x3_1 p128 q128
                  obtain rfl : ad127 = ad128 := (by injection e128)
                  replace p128 := eq_true p128
                  replace q128 := eq_true q128
                  have p129 : 0 ≤ (x3_1 : Int) := of_decide_eq_true asm_
                  have q129 : x3_1 < (l0.length : Int) := of_decide_eq_true asm_
                  obtain ⟨ad129, e129, hx129_0, hx129_1⟩ := lX HR0.out x3_1 p129 q129
                  obtain rfl : ad127 = ad129 := (by injection e129)
                  replace p129 := eq_true p129
                  replace q129 := eq_true q129
                  have p130 : 0 ≤ (x3_1 : Int) := of_decide_eq_true asm_
                  have q130 : x3_1 < (l0.length : Int) := of_decide_eq_true asm_
                  obtain ⟨ad130, e130, hx130_0, hx130_1⟩ := lX HR0.out x3_1 p130 q130
                  obtain rfl : ad127 = ad130 := (by injection e130)
                  replace p130 := eq_true p130
                  replace q130 := eq_true q130
                  go_wp2
                  go_ret
                  exact ⟨by first | rfl | (simp; done) | (simp [*]; done), by repeat (first | exact jC.refl _ | apply jC.step)⟩
                · rw [if_neg c7] at H
                  have c7b0 : decide (5 < ((jU l0 x3_1).f1)) = false := decide_eq_false c7
                  clear c7
                  have H' := iD.mk H
                  clear H
                  have p127 : 0 ≤ (x3_1 : Int) := of_decide_eq_true asm_
                  have q127 : x3_1 < (l0.length : Int) := of_decide_eq_true asm_
                  obtain ⟨ad127, e127, hx127_0, hx127_1⟩ := lX HR0.out x3_1 p127 q127
                  cases e127
                  replace p127 := eq_true p127
                  replace q127 := eq_true q127
                  have p128 : 0 ≤ (x3_1 : Int) := of_decide_eq_true asm_
                  have q128 : x3_1 < (l0.length : Int) := of_decide_eq_true asm_
                  obtain ⟨ad128, e128, hx128_0, hx128_1⟩ := lX HR0.out x3_1 p128 q128
                  obtain rfl : ad127 = ad128 := (by injection e128)
                  replace p128 := eq_true p128
                  replace q128 := eq_true q128
                  have p129 : 0 ≤ (x3_1 : Int) := of_decide_eq_true asm_
                  have q129 : x3_1 < (l0.length : Int) := of_decide_eq_true asm_
                  obtain ⟨ad129, e129, hx129_0, hx129_1⟩ := lX HR0.out x3_1 p129 q129
                  obtain rfl : ad127 = ad129 := (by injection e129)
                  replace p129 := eq_true p129
                  replace q129 := eq_true q129
                  have p130 : 0 ≤ (x3_1 : Int) := of_decide_eq_true asm_
                  have q130 : x3_1 < (l0.length : Int) := of_decide_eq_true asm_
                  obtain ⟨ad130, e130, hx130_0, hx130_1⟩ := lX HR0.out x3_1 p130 q130
                  obtain rfl : ad127 = ad130 := (by injection e130)
                  replace p130 := eq_true p130
                  replace q130 := eq_true q130
                  go_wp2
                  go_roundg k1
                  case measure => have := HK1.out; omega
                  case rel => exact ⟨(wrap64 (x3_1 + 1)), (by first | rfl | (simp; done) | (simp [*]; done)), H', ⟨by have := HK1.out; omega⟩, by repeat (first | exact jC.refl _ | apply jC.step)⟩
        · rw [if_neg c3] at H
          exact absurd H (by simp)
      · rw [if_neg c2] at H
        have c2b0 : decide (x3_1 < (l0.length : Int)) = false := decide_eq_false c2
        clear c2
        obtain rfl := Option.some.inj H
        go_wp2
        go_ret
        exact ⟨by first | rfl | (simp; done) | (simp [*]; done), by repeat (first | exact jC.refl _ | apply jC.step)⟩
end Go.Proofs.YtgfkgppomaapiaaDoor.K
end

section
namespace Go.Proofs.YtgfkgppomaapiaaDoor.K
open Go.RowKit Go.Proofs.YtgfkgppomaapiaaDoorW.PrintWords Go.Proofs.YtgfkgppomaapiaaDoorW.PrintLast Go.Proofs.YtgfkgppomaapiaaDoorW.PrintMore
attribute [local go_sem] kC kN
def stratumref07_SoundEntries.l0 : Nat → List (S86) → Int → Option (Bool)
  | 0, _, _ => none
  | k + 1, x0, x3 => if x3 < (x0.length : Int) then (if 0 ≤ x3 then ((stratumref07_SoundFacts.f k ((iV x0 x3).f1)).bind fun t132 => (if t132 = true then (if x3 > 0 then (if 0 ≤ (wrap64 (x3 - 1)) then (if (wrap64 (x3 - 1)) < (x0.length : Int) then (if ((iV x0 x3).f0) ≤ ((iV x0 (wrap64 (x3 - 1))).f0) then (some false) else (stratumref07_SoundEntries.l0 k x0 (wrap64 (x3 + 1)))) else (none)) else (none)) else (stratumref07_SoundEntries.l0 k x0 (wrap64 (x3 + 1)))) else (some false))) else (none)) else (some (decide ((x0.length : Int) ≤ 5000)))
def stratumref07_SoundEntries.f (k : Nat) (l0 : List (S86)) : Option (Bool) := stratumref07_SoundEntries.l0 k l0 0
set_option maxHeartbeats 8000000 in
set_option maxRecDepth 100000 in
theorem stratumref07_SoundEntries.calls (k : Nat) (A0 : Option Addr) (c0 : Nat) (l0 : List (S86)) (r : Bool) (w : World) (hr0 : Kd.C k86 w A0 l0.length l0) (hc0 : l0.length ≤ c0) (h : stratumref07_SoundEntries.f k l0 = some r) :
    Calls Tryd.prog 72 #[.slice A0 l0.length c0] w fun e w' => e = .returned (.bool r) ∧ jC w w' := by
  have HR0 := iD.mk hr0
  have HC0 := iD.mk hc0
  clear hr0 hc0
  have H : (stratumref07_SoundEntries.l0 k l0 0) = some r := h
  clear h
  have H' := iD.mk H
  clear H
  go_enter Tryd.func72, Tryd.ntmps72
  go_wp2
  repeat (go_quiet (fail); try go_wp2)
  go_loopg [3] k (fun kq v3 w' => ∃ (x3_1 : Int), v3 = .int .i64 x3_1 ∧ iD (stratumref07_SoundEntries.l0 kq l0 x3_1 = some r) ∧ iD (kq ≤ k) ∧ jC w w')
  case atStart => exact ⟨(0), (by first | rfl | (simp; done) | (simp [*]; done)), H', ⟨Nat.le_refl _⟩, by repeat (first | exact jC.refl _ | apply jC.step)⟩
  case round =>
    clear H'
    obtain ⟨x3_1, rfl, HA, HK1, ⟨m1, rfl⟩⟩ := hrel
    cases gk with
    | zero => exact absurd HA.out (by simp [stratumref07_SoundEntries.l0])
    | succ k1 =>
      have H := HA.out
      clear HA
      simp only [stratumref07_SoundEntries.l0] at H
      by_cases c2 : x3_1 < (l0.length : Int)
      · rw [if_pos c2] at H
        have c2b0 : decide (x3_1 < (l0.length : Int)) = true := decide_eq_true c2
        clear c2
        by_cases c3 : 0 ≤ x3_1
        · rw [if_pos c3] at H
          have c3b0 : decide (0 ≤ x3_1) = true := decide_eq_true c3
          clear c3
          replace H := Option.bind_eq_some_iff.mp H
          obtain ⟨t132, A40, H⟩ := H
          replace H : (if t132 = true then (if x3_1 > 0 then (if 0 ≤ (wrap64 (x3_1 - 1)) then (if (wrap64 (x3_1 - 1)) < (l0.length : Int) then (if ((iV l0 x3_1).f0) ≤ ((iV l0 (wrap64 (x3_1 - 1))).f0) then (some false) else (stratumref07_SoundEntries.l0 k1 l0 (wrap64 (x3_1 + 1)))) else (none)) else (none)) else (stratumref07_SoundEntries.l0 k1 l0 (wrap64 (x3_1 + 1)))) else (some false)) = some r := H
          have A4 := iD.mk A40
          clear A40
          by_cases c5 : t132 = true
          · subst c5
            have H1 : (if x3_1 > 0 then (if 0 ≤ (wrap64 (x3_1 - 1)) then (if (wrap64 (x3_1 - 1)) < (l0.length : Int) then (if ((iV l0 x3_1).f0) ≤ ((iV l0 (wrap64 (x3_1 - 1))).f0) then (some false) else (stratumref07_SoundEntries.l0 k1 l0 (wrap64 (x3_1 + 1)))) else (none)) else (none)) else (stratumref07_SoundEntries.l0 k1 l0 (wrap64 (x3_1 + 1)))) = some r := by rw [if_pos rfl] at H; exact H
            clear H
            have H := H1
            clear H1
            by_cases c6 : x3_1 > 0
            · rw [if_pos c6] at H
              have c6b0 : decide (0 < x3_1) = true := decide_eq_true c6
              clear c6
              obtain ⟨ji7, hji7⟩ : ∃ j_ : Int, (wrap64 (x3_1 - 1)) = j_ := ⟨_, rfl⟩
              replace H : (if 0 ≤ (ji7) then (if (ji7) < (l0.length : Int) then (if ((iV l0 x3_1).f0) ≤ ((iV l0 (ji7)).f0) then (some false) else (stratumref07_SoundEntries.l0 k1 l0 (wrap64 (x3_1 + 1)))) else (none)) else (none)) = some r := by first | (rw [hji7] at H; exact H) | (simp only [hji7] at H ⊢; exact H)
              (try rw [hji7] at A4)
              have hji7w : (IntKind.i64.wrap (x3_1 - 1)) = ji7 := (iY _).trans hji7
              by_cases c8 : 0 ≤ (ji7)
              · rw [if_pos c8] at H
                have c8b0 : decide (0 ≤ (ji7)) = true := decide_eq_true c8
                clear c8
                by_cases c9 : (ji7) < (l0.length : Int)
                · rw [if_pos c9] at H
                  have c9b0 : decide ((ji7) < (l0.length : Int)) = true := decide_eq_true c9
                  clear c9
                  by_cases c10 : ((iV l0 x3_1).f0) ≤ ((iV l0 (ji7)).f0)
                  · rw [if_pos c10] at H
                    have c10b0 : decide (((iV l0 x3_1).f0) ≤ ((iV l0 (ji7)).f0)) = true := decide_eq_true c10
                    clear c10
                    obtain rfl := Option.some.inj H
                    have p131 : 0 ≤ (x3_1 : Int) := of_decide_eq_true asm_
                    have q131 : x3_1 < (l0.length : Int) := of_decide_eq_true asm_
                    obtain ⟨ad131, A131_1, c131_1, e131, hx131_0, hx131_1, hl131_1, hi131_1⟩ := kS HR0.out x3_1 p131 q131
                    cases e131
                    have HR131_1 := iD.mk hi131_1
                    have HC131_1 := iD.mk hl131_1
                    clear hi131_1 hl131_1
                    replace p131 := eq_true p131
                    replace q131 := eq_true q131
                    go_wp2_with (first | (go_at_call 70; (with_reducible refine (stratumref07_SoundFacts.calls k1 _ _ ((iV l0 x3_1).f1) true _ ?side1 ?side2 A4.out).mono ?_); (case side1 => repeat (first | exact HR131_1.out | (with_reducible refine Kd.C_alloc ?_ _) | (with_reducible refine Kd.C_drewN ?_ _) | (with_reducible refine Kd.C_drew ?_))); (case side2 => exact HC131_1.out); rintro e w' ⟨rfl, ⟨nd, rfl⟩⟩; (try first | exact ⟨rfl, _, World.drewN_drewN _ _ _⟩ | exact ⟨rfl, _, Eq.trans (World.drewN_drewN _ _ _) (congrArg (World.drewN _) (Nat.add_assoc _ _ _))⟩); have p133 : 0 ≤ (x3_1 : Int) := of_decide_eq_true asm_; have q133 : x3_1 < (l0.length : Int) := of_decide_eq_true asm_; obtain ⟨ad133, A133_1, c133_1, e133, hx133_0, hx133_1, hl133_1, hi133_1⟩ := kS HR0.out x3_1 p133 q133; obtain rfl : ad131 = ad133 := (by injection e133); have HR133_1 := iD.mk hi133_1; have HC133_1 := iD.mk hl133_1; clear hi133_1 hl133_1; replace p133 := eq_true p133; replace q133 := eq_true q133; have ea_ := Option.some.inj (hx131_1.symm.trans hx133_1); injection ea_ with ea_ en_ ec_; subst ea_; subst ec_; clear en_; have p134 : 0 ≤ ((ji7) : Int) := of_decide_eq_true asm_; have q134 : (ji7) < (l0.length : Int) := of_decide_eq_true asm_; obtain ⟨ad134, A134_1, c134_1, e134, hx134_0, hx134_1, hl134_1, hi134_1⟩ := kS HR0.out (ji7) p134 q134; obtain rfl : ad131 = ad134 := (by injection e134); have HR134_1 := iD.mk hi134_1; have HC134_1 := iD.mk hl134_1; clear hi134_1 hl134_1; replace p134 := eq_true p134; replace q134 := eq_true q134))
                    repeat (go_quiet (first | (go_at_call 70; (with_reducible refine (stratumref07_SoundFacts.calls k1 _ _ ((iV l0 x3_1).f1) true _ ?side1 ?side2 A4.out).mono ?_); (case side1 => repeat (first | exact HR131_1.out | (with_reducible refine Kd.C_alloc ?_ _) | (with_reducible refine Kd.C_drewN ?_ _) | (with_reducible refine Kd.C_drew ?_))); (case side2 => exact HC131_1.out); rintro e w' ⟨rfl, ⟨nd, rfl⟩⟩; (try first | exact ⟨rfl, _, World.drewN_drewN _ _ _⟩ | exact ⟨rfl, _, Eq.trans (World.drewN_drewN _ _ _) (congrArg (World.drewN _) (Nat.add_assoc _ _ _))⟩); have p133 : 0 ≤ (x3_1 : Int) := of_decide_eq_true asm_; have q133 : x3_1 < (l0.length : Int) := of_decide_eq_true asm_; obtain ⟨ad133, A133_1, c133_1, e133, hx133_0, hx133_1, hl133_1, hi133_1⟩ := kS HR0.out x3_1 p133 q133; obtain rfl : ad131 = ad133 := (by injection e133); have HR133_1 := iD.mk hi133_1; have HC133_1 := iD.mk hl133_1; clear hi133_1 hl133_1; replace p133 := eq_true p133; replace q133 := eq_true q133; have ea_ := Option.some.inj (hx131_1.symm.trans hx133_1); injection ea_ with ea_ en_ ec_; subst ea_; subst ec_; clear en_; have p134 : 0 ≤ ((ji7) : Int) := of_decide_eq_true asm_; have q134 : (ji7) < (l0.length : Int) := of_decide_eq_true asm_; obtain ⟨ad134, A134_1, c134_1, e134, hx134_0, hx134_1, hl134_1, hi134_1⟩ := kS HR0.out (ji7) p134 q134; obtain rfl : ad131 = ad134 := (by injection e134); have HR134_1 := iD.mk hi134_1; have HC134_1 := iD.mk hl134_1; clear hi134_1 hl134_1; replace p134 := eq_true p134; replace q134 := eq_true q134)); try go_wp2_with (first | (go_at_call 70; (with_reducible refine (stratumref07_SoundFacts.calls k1 _ _ ((iV l0 x3_1).f1) true _ ?side1 ?side2 A4.out).mono ?_); (case side1 => repeat (first | exact HR131_1.out | (with_reducible refine Kd.C_alloc ?_ _) | (with_reducible refine Kd.C_drewN ?_ _) | (with_reducible refine Kd.C_drew ?_))); (case side2 => exact HC131_1.out); rintro e w' ⟨rfl, ⟨nd, rfl⟩⟩; (try first | exact ⟨rfl, _, World.drewN_drewN _ _ _⟩ | exact ⟨rfl, _, Eq.trans (World.drewN_drewN _ _ _) (congrArg (World.drewN _) (Nat.add_assoc _ _ _))⟩); have p133 : 0 ≤ (x3_1 : Int) := of_decide_eq_true asm_; have q133 : x3_1 < (l0.length : Int) := of_decide_eq_true asm_; obtain ⟨ad133, A133_1, c133_1, e133, hx133_0, hx133_1, hl133_1, hi133_1⟩ := kS HR0.out x3_1 p133 q133; obtain rfl : ad131 = ad133 := (by injection e133); have HR133_1 := iD.mk hi133_1; have HC133_1 := iD.mk hl133_1; clear hi133_1 hl133_1; replace p133 := eq_true p133; replace q133 := eq_true q133; have ea_ := Option.some.inj (hx131_1.symm.trans hx133_1); injection ea_ with ea_ en_ ec_; subst ea_; subst ec_; clear en_; have p134 : 0 ≤ ((ji7) : Int) := of_decide_eq_true asm_; have q134 : (ji7) < (l0.length : Int) := of_decide_eq_true asm_; obtain ⟨ad134, A134_1, c134_1, e134, hx134_0, hx134_1, hl134_1, hi134_1⟩ := kS HR0.out (ji7) p134 q134; obtain rfl : ad131 = ad134 := (by injection e134); have HR134_1 := iD.mk hi134_1; have HC134_1 := iD.mk hl134_1; clear hi134_1 hl134_1; replace p134 := eq_true p134; replace q134 := eq_true q134)))
                    go_ret
                    exact ⟨by first | rfl | (simp; done) | (simp only [← hji7] <;> (first | rfl | simp)) | (simp [*]; done), by repeat (first | exact jC.refl _ | apply jC.step)⟩
                  · rw [if_neg c10] at H
                    have c10b0 : decide (((iV l0 x3_1).f0) ≤ ((iV l0 (ji7)).f0)) = false := decide_eq_false c10
                    clear c10
                    have H' := iD.mk H
                    clear H
                    have p131 : 0 ≤ (x3_1 : Int) := of_decide_eq_true asm_
                    have q131 : x3_1 < (l0.length : Int) := of_decide_eq_true asm_
                    obtain ⟨ad131, A131_1, c131_1, e131, hx131_0, hx131_1, hl131_1, hi131_1⟩ := kS HR0.out x3_1 p131 q131
                    cases e131
                    have HR131_1 := iD.mk hi131_1
                    have HC131_1 := iD.mk hl131_1
                    clear hi131_1 hl131_1
                    replace p131 := eq_true p131
                    replace q131 := eq_true q131
                    go_wp2_with (first | (go_at_call 70; (with_reducible refine (stratumref07_SoundFacts.calls k1 _ _ ((iV l0 x3_1).f1) true _ ?side1 ?side2 A4.out).mono ?_); (case side1 => repeat (first | exact HR131_1.out | (with_reducible refine Kd.C_alloc ?_ _) | (with_reducible refine Kd.C_drewN ?_ _) | (with_reducible refine Kd.C_drew ?_))); (case side2 => exact HC131_1.out); rintro e w' ⟨rfl, ⟨nd, rfl⟩⟩; (try first | exact ⟨rfl, _, World.drewN_drewN _ _ _⟩ | exact ⟨rfl, _, Eq.trans (World.drewN_drewN _ _ _) (congrArg (World.drewN _) (Nat.add_assoc _ _ _))⟩); have p133 : 0 ≤ (x3_1 : Int) := of_decide_eq_true asm_; have q133 : x3_1 < (l0.length : Int) := of_decide_eq_true asm_; obtain ⟨ad133, A133_1, c133_1, e133, hx133_0, hx133_1, hl133_1, hi133_1⟩ := kS HR0.out x3_1 p133 q133; obtain rfl : ad131 = ad133 := (by injection e133); have HR133_1 := iD.mk hi133_1; have HC133_1 := iD.mk hl133_1; clear hi133_1 hl133_1; replace p133 := eq_true p133; replace q133 := eq_true q133; have ea_ := Option.some.inj (hx131_1.symm.trans hx133_1); injection ea_ with ea_ en_ ec_; subst ea_; subst ec_; clear en_; have p134 : 0 ≤ ((ji7) : Int) := of_decide_eq_true asm_; have q134 : (ji7) < (l0.length : Int) := of_decide_eq_true asm_; obtain ⟨ad134, A134_1, c134_1, e134, hx134_0, hx134_1, hl134_1, hi134_1⟩ := kS HR0.out (ji7) p134 q134; obtain rfl : ad131 = ad134 := (by injection e134); have HR134_1 := iD.mk hi134_1; have HC134_1 := iD.mk hl134_1; clear hi134_1 hl134_1; replace p134 := eq_true p134; replace q134 := eq_true q134))
                    repeat (go_quiet (first | (go_at_call 70; (with_reducible refine (stratumref07_SoundFacts.calls k1 _ _ ((iV l0 x3_1).f1) true _ ?side1 ?side2 A4.out).mono ?_); (case side1 => repeat (first | exact HR131_1.out | (with_reducible refine Kd.C_alloc ?_ _) | (with_reducible refine Kd.C_drewN ?_ _) | (with_reducible refine Kd.C_drew ?_))); (case side2 => exact HC131_1.out); rintro e w' ⟨rfl, ⟨nd, rfl⟩⟩; (try first | exact ⟨rfl, _, World.drewN_drewN _ _ _⟩ | exact ⟨rfl, _, Eq.trans (World.drewN_drewN _ _ _) (congrArg (World.drewN _) (Nat.add_assoc _ _ _))⟩); have p133 : 0 ≤ (x3_1 : Int) := of_decide_eq_true asm_; have q133 : x3_1 < (l0.length : Int) := of_decide_eq_true asm_; obtain ⟨ad133, A133_1, c133_1, e133, hx133_0, hx133_1, hl133_1, hi133_1⟩ := kS HR0.out x3_1 p133 q133; obtain rfl : ad131 = ad133 := (by injection e133); have HR133_1 := iD.mk hi133_1; have HC133_1 := iD.mk hl133_1; clear hi133_1 hl133_1; replace p133 := eq_true p133; replace q133 := eq_true q133; have ea_ := Option.some.inj (hx131_1.symm.trans hx133_1); injection ea_ with ea_ en_ ec_; subst ea_; subst ec_; clear en_; have p134 : 0 ≤ ((ji7) : Int) := of_decide_eq_true asm_; have q134 : (ji7) < (l0.length : Int) := of_decide_eq_true asm_; obtain ⟨ad134, A134_1, c134_1, e134, hx134_0, hx134_1, hl134_1, hi134_1⟩ := kS HR0.out (ji7) p134 q134; obtain rfl : ad131 = ad134 := (by injection e134); have HR134_1 := iD.mk hi134_1; have HC134_1 := iD.mk hl134_1; clear hi134_1 hl134_1; replace p134 := eq_true p134; replace q134 := eq_true q134)); try go_wp2_with (first | (go_at_call 70; (with_reducible refine (stratumref07_SoundFacts.calls k1 _ _ ((iV l0 x3_1).f1) true _ ?side1 ?side2 A4.out).mono ?_); (case side1 => repeat (first | exact HR131_1.out | (with_reducible refine Kd.C_alloc ?_ _) | (with_reducible refine Kd.C_drewN ?_ _) | (with_reducible refine Kd.C_drew ?_))); (case side2 => exact HC131_1.out); rintro e w' ⟨rfl, ⟨nd, rfl⟩⟩; (try first | exact ⟨rfl, _, World.drewN_drewN _ _ _⟩ | exact ⟨rfl, _, Eq.trans (World.drewN_drewN _ _ _) (congrArg (World.drewN _) (Nat.add_assoc _ _ _))⟩); have p133 : 0 ≤ (x3_1 : Int) := of_decide_eq_true asm_; have q133 : x3_1 < (l0.length : Int) := of_decide_eq_true asm_; obtain ⟨ad133, A133_1, c133_1, e133, hx133_0, hx133_1, hl133_1, hi133_1⟩ := kS HR0.out x3_1 p133 q133; obtain rfl : ad131 = ad133 := (by injection e133); have HR133_1 := iD.mk hi133_1; have HC133_1 := iD.mk hl133_1; clear hi133_1 hl133_1; replace p133 := eq_true p133; replace q133 := eq_true q133; have ea_ := Option.some.inj (hx131_1.symm.trans hx133_1); injection ea_ with ea_ en_ ec_; subst ea_; subst ec_; clear en_; have p134 : 0 ≤ ((ji7) : Int) := of_decide_eq_true asm_; have q134 : (ji7) < (l0.length : Int) := of_decide_eq_true asm_; obtain ⟨ad134, A134_1, c134_1, e134, hx134_0, hx134_1, hl134_1, hi134_1⟩ := kS HR0.out (ji7) p134 q134; obtain rfl : ad131 = ad134 := (by injection e134); have HR134_1 := iD.mk hi134_1; have HC134_1 := iD.mk hl134_1; clear hi134_1 hl134_1; replace p134 := eq_true p134; replace q134 := eq_true q134)))
                    go_roundg k1
                    case measure => have := HK1.out; omega
                    case rel => exact ⟨(wrap64 (x3_1 + 1)), (by first | rfl | (simp; done) | (simp [*]; done)), H', ⟨by have := HK1.out; omega⟩, by repeat (first | exact jC.refl _ | apply jC.step)⟩
                · rw [if_neg c9] at H
                  exact absurd H (by simp)
              · rw [if_neg c8] at H
                exact absurd H (by simp)
            · rw [if_neg c6] at H
              have c6b0 : decide (0 < x3_1) = false := decide_eq_false c6
              clear c6
              have H' := iD.mk H
              clear H
              have p131 : 0 ≤ (x3_1 : Int) := of_decide_eq_true asm_
              have q131 : x3_1 < (l0.length : Int) := of_decide_eq_true asm_
              obtain ⟨ad131, A131_1, c131_1, e131, hx131_0, hx131_1, hl131_1, hi131_1⟩ := kS HR0.out x3_1 p131 q131
              cases e131
              have HR131_1 := iD.mk hi131_1
              have HC131_1 := iD.mk hl131_1
              clear hi131_1 hl131_1
              replace p131 := eq_true p131
              replace q131 := eq_true q131
              go_wp2_with (first | (go_at_call 70; (with_reducible refine (stratumref07_SoundFacts.calls k1 _ _ ((iV l0 x3_1).f1) true _ ?side1 ?side2 A4.out).mono ?_); (case side1 => repeat (first | exact HR131_1.out | (with_reducible refine Kd.C_alloc ?_ _) | (with_reducible refine Kd.C_drewN ?_ _) | (with_reducible refine Kd.C_drew ?_))); (case side2 => exact HC131_1.out); rintro e w' ⟨rfl, ⟨nd, rfl⟩⟩; (try first | exact ⟨rfl, _, World.drewN_drewN _ _ _⟩ | exact ⟨rfl, _, Eq.trans (World.drewN_drewN _ _ _) (congrArg (World.drewN _) (Nat.add_assoc _ _ _))⟩)))
              repeat (go_quiet (first | (go_at_call 70; (with_reducible refine (stratumref07_SoundFacts.calls k1 _ _ ((iV l0 x3_1).f1) true _ ?side1 ?side2 A4.out).mono ?_); (case side1 => repeat (first | exact HR131_1.out | (with_reducible refine Kd.C_alloc ?_ _) | (with_reducible refine Kd.C_drewN ?_ _) | (with_reducible refine Kd.C_drew ?_))); (case side2 => exact HC131_1.out); rintro e w' ⟨rfl, ⟨nd, rfl⟩⟩; (try first | exact ⟨rfl, _, World.drewN_drewN _ _ _⟩ | exact ⟨rfl, _, Eq.trans (World.drewN_drewN _ _ _) (congrArg (World.drewN _) (Nat.add_assoc _ _ _))⟩))); try go_wp2_with (first | (go_at_call 70; (with_reducible refine (stratumref07_SoundFacts.calls k1 _ _ ((iV l0 x3_1).f1) true _ ?side1 ?side2 A4.out).mono ?_); (case side1 => repeat (first | exact HR131_1.out | (with_reducible refine Kd.C_alloc ?_ _) | (with_reducible refine Kd.C_drewN ?_ _) | (with_reducible refine Kd.C_drew ?_))); (case side2 => exact HC131_1.out); rintro e w' ⟨rfl, ⟨nd, rfl⟩⟩; (try first | exact ⟨rfl, _, World.drewN_drewN _ _ _⟩ | exact ⟨rfl, _, Eq.trans (World.drewN_drewN _ _ _) (congrArg (World.drewN _) (Nat.add_assoc _ _ _))⟩))))
              go_roundg k1
              case measure => have := HK1.out; omega
              case rel => exact ⟨(wrap64 (x3_1 + 1)), (by first | rfl | (simp; done) | (simp [*]; done)), H', ⟨by have := HK1.out; omega⟩, by repeat (first | exact jC.refl _ | apply jC.step)⟩
          · replace c5 := Bool.eq_false_iff.mpr c5
            subst c5
            have H1 : (some false) = some r := by rw [if_neg (show ¬ (false = true) by decide)] at H; exact H
            clear H
            have H := H1
            clear H1
            obtain rfl := Option.some.inj H
            have p131 : 0 ≤ (x3_1 : Int) := of_decide_eq_true asm_
            have q131 : x3_1 < (l0.length : Int) := of_decide_eq_true asm_
            obtain ⟨ad131, A131_1, c131_1, e131, hx131_0, hx131_1, hl131_1, hi131_1⟩ := kS HR0.out x3_1 p131 q131
            cases e131
            have HR131_1 := iD.mk hi131_1
            have HC131_1 := iD.mk hl131_1
            clear hi131_1 hl131_1
            replace p131 := eq_true p131
            replace q131 := eq_true q131
            go_wp2_with (first | (go_at_call 70; (with_reducible refine (stratumref07_SoundFacts.calls k1 _ _ ((iV l0 x3_1).f1) false _ ?side1 ?side2 A4.out).mono ?_); (case side1 => repeat (first | exact HR131_1.out | (with_reducible refine Kd.C_alloc ?_ _) | (with_reducible refine Kd.C_drewN ?_ _) | (with_reducible refine Kd.C_drew ?_))); (case side2 => exact HC131_1.out); rintro e w' ⟨rfl, ⟨nd, rfl⟩⟩; (try first | exact ⟨rfl, _, World.drewN_drewN _ _ _⟩ | exact ⟨rfl, _, Eq.trans (World.drewN_drewN _ _ _) (congrArg (World.drewN _) (Nat.add_assoc _ _ _))⟩)))
            repeat (go_quiet (first | (go_at_call 70; (with_reducible refine (stratumref07_SoundFacts.calls k1 _ _ ((iV l0 x3_1).f1) false _ ?side1 ?side2 A4.out).mono ?_); (case side1 => repeat (first | exact HR131_1.out | (with_reducible refine Kd.C_alloc ?_ _) | (with_reducible refine Kd.C_drewN ?_ _) | (with_reducible refine Kd.C_drew ?_))); (case side2 => exact HC131_1.out); rintro e w' ⟨rfl, ⟨nd, rfl⟩⟩; (try first | exact ⟨rfl, _, World.drewN_drewN _ _ _⟩ | exact ⟨rfl, _, Eq.trans (World.drewN_drewN _ _ _) (congrArg (World.drewN _) (Nat.add_assoc _ _ _))⟩))); try go_wp2_with (first | (go_at_call 70; (with_reducible refine (stratumref07_SoundFacts.calls k1 _ _ ((iV l0 x3_1).f1) false _ ?side1 ?side2 A4.out).mono ?_); (case side1 => repeat (first | exact HR131_1.out | (with_reducible refine Kd.C_alloc ?_ _) | (with_reducible refine Kd.C_drewN ?_ _) | (with_reducible refine Kd.C_drew ?_))); (case side2 => exact HC131_1.out); rintro e w' ⟨rfl, ⟨nd, rfl⟩⟩; (try first | exact ⟨rfl, _, World.drewN_drewN _ _ _⟩ | exact ⟨rfl, _, Eq.trans (World.drewN_drewN _ _ _) (congrArg (World.drewN _) (Nat.add_assoc _ _ _))⟩))))
            go_ret
            exact ⟨by first | rfl | (simp; done) | (simp [*]; done), by repeat (first | exact jC.refl _ | apply jC.step)⟩
        · rw [if_neg c3] at H
          exact absurd H (by simp)
      · rw [if_neg c2] at H
        have c2b0 : decide (x3_1 < (l0.length : Int)) = false := decide_eq_false c2
        clear c2
        obtain rfl := Option.some.inj H
        go_wp2
        repeat (go_quiet (fail); try go_wp2)
        go_ret
        exact ⟨by first | rfl | (simp; done) | (simp [*]; done), by repeat (first | exact jC.refl _ | apply jC.step)⟩
end Go.Proofs.YtgfkgppomaapiaaDoor.K
end

section
namespace Go.Proofs.YtgfkgppomaapiaaDoor.K
open Go.RowKit Go.Proofs.YtgfkgppomaapiaaDoorW.PrintWords
abbrev jK := S139
abbrev jG := S86
abbrev jW := S98
structure SMap where
  f0 : Int
  f1 : List jW
structure SRec where
  f0 : Int
  f1 : Int
  f2 : Int
  f3 : List Int
  f4 : List jK
  f5 : SMap
  f6 : Int
  f7 : Int
  f8 : List jG
def layB (x : Int) : Nat → List UInt8
  | 0 => []
  | n + 1 => UInt8.ofNat ((x / 256 ^ n) % 256).toNat :: layB x n
theorem iP (x : Int) : ∀ n, (layB x n).length = n
  | 0 => rfl
  | n + 1 => by simp [layB, iP x n]
def numB (l : List UInt8) : Nat := l.foldl (fun n c => n * 256 + c.toNat) 0
theorem NK (l : List UInt8) : ∀ k : Nat, l.foldl (fun n c => n * 256 + c.toNat) k = k * 256 ^ l.length + numB l := by
  induction l with
  | nil => intro k; simp [numB]
  | cons c l ih =>
    intro k
    unfold numB
    simp only [List.foldl_cons, List.length_cons, Nat.zero_mul, Nat.zero_add]
    rw [ih, ih c.toNat, Nat.pow_succ, Nat.add_mul, Nat.mul_assoc, Nat.mul_comm 256, Nat.add_assoc]
theorem J9 (c : UInt8) (l : List UInt8) : numB (c :: l) = c.toNat * 256 ^ l.length + numB l := by
  show List.foldl _ _ (c :: l) = _
  simp only [List.foldl_cons, Nat.zero_mul, Nat.zero_add]
  rw [NK]
theorem RF (l : List UInt8) (c : UInt8) : numB (l ++ [c]) = numB l * 256 + c.toNat := by
  unfold numB; rw [List.foldl_append]; rfl
theorem xB (l : List UInt8) : numB l < 256 ^ l.length := by
  induction l with
  | nil => simp [numB]
  | cons c l ih =>
    rw [J9, List.length_cons, Nat.pow_succ]
    have := c.toNat_lt
    have : (c.toNat + 1) * 256 ^ l.length ≤ 256 * 256 ^ l.length := Nat.mul_le_mul_right _ (by omega)
    rw [Nat.add_mul] at this
    rw [Nat.mul_comm (256 ^ l.length)]
    omega
theorem PK (x : Int) (n : Nat) : x % 256 ^ (n + 1) = ((x / 256 ^ n) % 256) * 256 ^ n + x % 256 ^ n := by
  have hp : (0 : Int) < 256 ^ n := Int.pow_pos (by decide)
  rw [Int.pow_succ]
  have h1 := Int.mul_ediv_add_emod x (256 ^ n)
  have h2 := Int.mul_ediv_add_emod (x / 256 ^ n) 256
  have h3 := Int.emod_nonneg (x / 256 ^ n) (by decide : (256 : Int) ≠ 0)
  have h4 := Int.emod_lt_of_pos (x / 256 ^ n) (by decide : (0 : Int) < 256)
  have h5 := Int.emod_nonneg x (Int.ne_of_gt hp)
  have h6 := Int.emod_lt_of_pos x hp
  have e : x = ((x / 256 ^ n) % 256 * 256 ^ n + x % 256 ^ n) + (256 ^ n * 256) * (x / 256 ^ n / 256) := by
    conv => lhs; rw [← h1, ← h2]
    rw [Int.mul_add, Int.mul_assoc, Int.mul_comm (256 ^ n) ((x / 256 ^ n) % 256)]
    omega
  conv => lhs; rw [e]
  rw [Int.add_mul_emod_self_left]
  have h7 : (x / 256 ^ n) % 256 * 256 ^ n ≤ 255 * 256 ^ n := Int.mul_le_mul_of_nonneg_right (by omega) (Int.le_of_lt hp)
  have h8 : 0 ≤ (x / 256 ^ n) % 256 * 256 ^ n := Int.mul_nonneg h3 (Int.le_of_lt hp)
  exact Int.emod_eq_of_lt (by omega) (by omega)
theorem J7 (x : Int) : ∀ n, (numB (layB x n) : Int) = x % 256 ^ n
  | 0 => by rw [Int.pow_zero]; show ((0 : Nat) : Int) = x % 1; omega
  | n + 1 => by
    have h3 := Int.emod_nonneg (x / 256 ^ n) (by decide : (256 : Int) ≠ 0)
    have h4 := Int.emod_lt_of_pos (x / 256 ^ n) (by decide : (0 : Int) < 256)
    rw [layB, J9, iP, PK]
    simp only [Int.natCast_add, Int.natCast_mul, Int.natCast_pow]
    rw [J7 x n]
    congr 1
    congr 1
    rw [UInt8.toNat_ofNat']
    have : ((x / 256 ^ n) % 256).toNat % 2 ^ 8 = ((x / 256 ^ n) % 256).toNat := Nat.mod_eq_of_lt (by omega)
    rw [this]
    omega
def number (size : Nat) (b : List UInt8) : Option (Nat × List UInt8) := if b.length < size then none else some (numB (b.take size), b.drop size)
def many (size least : Nat) (b : List UInt8) : Option (Nat × List UInt8) := (number size b).bind fun x => if x.1 > x.2.length / least then none else some x
def repP {α : Type} (p : List UInt8 → Option (α × List UInt8)) : Nat → List UInt8 → Option (List α × List UInt8)
  | 0, b => some ([], b)
  | n + 1, b => (p b).bind fun x => (repP p n x.2).bind fun y => some (x.1 :: y.1, y.2)
def intP (size : Nat) (b : List UInt8) : Option (Int × List UInt8) := (number size b).bind fun x => some ((x.1 : Int), x.2)
def s64 (n : Nat) : Int := if n < 9223372036854775808 then (n : Int) else (n : Int) - 18446744073709551616
def nP (b : List UInt8) : Option (List Int × List UInt8) := (many 1 1 b).bind fun x => repP (intP 1) x.1 x.2
def qA (b : List UInt8) : Option (jK × List UInt8) := (many 1 4 b).bind fun x => (repP (intP 4) x.1 x.2).bind fun y => (number 8 y.2).bind fun z => some (⟨y.1, s64 z.1⟩, z.2)
def mW (b : List UInt8) : Option (List jK × List UInt8) := (many 4 9 b).bind fun x => repP qA x.1 x.2
def nO (b : List UInt8) : Option (jG × List UInt8) := (intP 4 b).bind fun x => (mW x.2).bind fun y => some (⟨x.1, y.1⟩, y.2)
def lL (b : List UInt8) : Option (List jG × List UInt8) := (many 4 8 b).bind fun x => repP nO x.1 x.2
def uF (b : List UInt8) : Option (jW × List UInt8) := (intP 4 b).bind fun x => (intP 1 x.2).bind fun y => some (⟨x.1, y.1⟩, y.2)
def pO (b : List UInt8) : Option (List jW × List UInt8) := (many 1 5 b).bind fun x => repP uF x.1 x.2
def rX (k id : Int) (b : List UInt8) : Option (SRec × List UInt8) :=
  if k = 1 then (nP b).bind fun x => (mW x.2).bind fun y => some (⟨k, id, 0, x.1, y.1, ⟨0, []⟩, 0, 0, []⟩, y.2)
  else if k = 2 then (intP 4 b).bind fun x => (nP x.2).bind fun y => some (⟨k, id, x.1, y.1, [], ⟨0, []⟩, 0, 0, []⟩, y.2)
  else if k = 6 then (intP 4 b).bind fun x => (pO x.2).bind fun y => some (⟨k, id, 0, [], [], ⟨x.1, y.1⟩, 0, 0, []⟩, y.2)
  else if k = 7 then (intP 4 b).bind fun x => (intP 4 x.2).bind fun y => (lL y.2).bind fun z => some (⟨k, id, 0, [], [], ⟨0, []⟩, x.1, y.1, z.1⟩, z.2)
  else some (⟨k, id, 0, [], [], ⟨0, []⟩, 0, 0, []⟩, b)
def recP (b : List UInt8) : Option (SRec × List UInt8) := (intP 1 b).bind fun x => (intP 4 x.2).bind fun y => rX x.1 y.1 y.2
def kY (l : List Int) : List UInt8 := layB l.length 1 ++ l.flatMap (layB · 1)
def mJ (f : jK) : List UInt8 := layB f.f0.length 1 ++ f.f0.flatMap (layB · 4) ++ layB f.f1 8
def jY (l : List jK) : List UInt8 := layB l.length 4 ++ l.flatMap mJ
def kQ (e : jG) : List UInt8 := layB e.f0 4 ++ jY e.f1
def jT (l : List jG) : List UInt8 := layB l.length 4 ++ l.flatMap kQ
def mG (s : jW) : List UInt8 := layB s.f0 4 ++ layB s.f1 1
def xA (l : List jW) : List UInt8 := layB l.length 1 ++ l.flatMap mG
def yK (r : SRec) : List UInt8 :=
  if r.f0 = 1 then kY r.f3 ++ jY r.f4
  else if r.f0 = 2 then layB r.f2 4 ++ kY r.f3
  else if r.f0 = 6 then layB r.f5.f0 4 ++ xA r.f5.f1
  else if r.f0 = 7 then layB r.f6 4 ++ (layB r.f7 4 ++ jT r.f8)
  else []
def recE (r : SRec) : List UInt8 := layB r.f0 1 ++ (layB r.f1 4 ++ yK r)
def kT (last : Int) : List Int → Bool
  | [] => true
  | n :: l => last < n && n < 6 && kT n l
def nK (f : jK) : Bool := f.f0.length ≤ 4 && f.f0.all fun v => 0 ≤ v && v ≤ 9999
def lF (l : List jK) : Bool := l.length ≤ 200 && l.all nK
def nG (p : Option Int) : List jG → Bool
  | [] => true
  | e :: l => lF e.f1 && (match p with | none => true | some q => decide (q < e.f0)) && nG (some e.f0) l
def lZ (l : List jG) : Bool := nG none l
def lN (s : jW) : Bool := 0 ≤ s.f0 && s.f0 ≤ 9999 && 0 ≤ s.f1 && s.f1 < 6
def jL (r : SRec) : Bool :=
  if r.f0 = 1 then kT (-1) r.f3 && lF r.f4 && r.f2 == 0 && r.f5.f0 == 0 && r.f5.f1.isEmpty && r.f6 == 0 && r.f7 == 0 && r.f8.isEmpty
  else if r.f0 = 2 then kT (-1) r.f3 && r.f4.isEmpty && r.f5.f0 == 0 && r.f5.f1.isEmpty && r.f6 == 0 && r.f7 == 0 && r.f8.isEmpty
  else if r.f0 = 3 || r.f0 = 4 || r.f0 = 5 then r.f2 == 0 && r.f3.isEmpty && r.f4.isEmpty && r.f5.f0 == 0 && r.f5.f1.isEmpty && r.f6 == 0 && r.f7 == 0 && r.f8.isEmpty
  else if r.f0 = 6 then r.f1 == 0 && r.f5.f1.length ≤ 40 && r.f5.f1.all lN && r.f2 == 0 && r.f3.isEmpty && r.f4.isEmpty && r.f6 == 0 && r.f7 == 0 && r.f8.isEmpty
  else if r.f0 = 7 then lZ r.f8 && r.f8.length ≤ 5000 && 0 ≤ r.f6 && r.f6 ≤ 10000 && 0 ≤ r.f7 && r.f7 ≤ 10000 && r.f2 == 0 && r.f3.isEmpty && r.f4.isEmpty && r.f5.f0 == 0 && r.f5.f1.isEmpty
  else false
def xW (f : jK) : Prop := -9223372036854775808 ≤ f.f1 ∧ f.f1 < 9223372036854775808
def uK (e : jG) : Prop := 0 ≤ e.f0 ∧ e.f0 < 4294967296 ∧ ∀ f ∈ e.f1, xW f
structure vU (r : SRec) : Prop where
  kind : 0 ≤ r.f0 ∧ r.f0 < 256
  id : 0 ≤ r.f1 ∧ r.f1 < 4294967296
  at_ : 0 ≤ r.f2 ∧ r.f2 < 4294967296
  facts : ∀ f ∈ r.f4, xW f
  epoch : 0 ≤ r.f5.f0 ∧ r.f5.f0 < 4294967296
  entries : ∀ e ∈ r.f8, uK e
theorem zI (x : Int) (n : Nat) (t : List UInt8) : number n (layB x n ++ t) = some ((x % 256 ^ n).toNat, t) := by
  unfold number
  rw [if_neg (by rw [List.length_append, iP]; omega)]
  have h1 : (layB x n ++ t).take n = layB x n := by rw [List.take_append_of_le_length (by rw [iP]; exact Nat.le_refl _), List.take_of_length_le (by rw [iP]; exact Nat.le_refl _)]
  have h2 : (layB x n ++ t).drop n = t := by
    have := @List.drop_left _ (layB x n) t
    rwa [iP] at this
  rw [h1, h2]
  have := J7 x n
  congr 2
  omega
theorem vF (x : Int) (n : Nat) (t : List UInt8) (h0 : 0 ≤ x) (h1 : x < 256 ^ n) : number n (layB x n ++ t) = some (x.toNat, t) := by
  rw [zI, Int.emod_eq_of_lt h0 h1]
theorem mM (x : Int) (n : Nat) (t : List UInt8) (h0 : 0 ≤ x) (h1 : x < 256 ^ n) : intP n (layB x n ++ t) = some (x, t) := by
  unfold intP
  rw [vF x n t h0 h1]
  simp only [Option.bind_some]
  rw [Int.toNat_of_nonneg h0]
theorem UZ (v : Int) (h0 : -9223372036854775808 ≤ v) (h1 : v < 9223372036854775808) : s64 (v % 256 ^ 8).toNat = v := by
  unfold s64
  have e : (256 : Int) ^ 8 = 18446744073709551616 := by decide
  rw [e]
  split <;> omega
theorem rQ (x size least : Nat) (t : List UInt8) (h1 : (x : Int) < 256 ^ size) (h : x * least ≤ t.length) (hl : 0 < least) : many size least (layB (x : Int) size ++ t) = some (x, t) := by
  unfold many
  rw [vF _ _ _ (by omega) h1]
  simp only [Option.bind_some, Int.toNat_natCast]
  rw [if_neg]
  have : x ≤ t.length / least := (Nat.le_div_iff_mul_le hl).2 h
  omega
theorem qL {α : Type} (p : List UInt8 → Option (α × List UInt8)) (enc : α → List UInt8) : ∀ (l : List α) (t : List UInt8), (∀ x ∈ l, ∀ t, p (enc x ++ t) = some (x, t)) → repP p l.length (l.flatMap enc ++ t) = some (l, t)
  | [], t, _ => by simp [repP]
  | x :: l, t, h => by
    rw [List.flatMap_cons, List.append_assoc, List.length_cons, repP, h x List.mem_cons_self]
    simp only [Option.bind_some]
    rw [qL p enc l t (fun y hy => h y (List.mem_cons_of_mem _ hy))]
    rfl
theorem qK {α : Type} (enc : α → List UInt8) (m : Nat) : ∀ l : List α, (∀ x ∈ l, m ≤ (enc x).length) → l.length * m ≤ (l.flatMap enc).length
  | [], _ => by simp
  | x :: l, h => by
    rw [List.flatMap_cons, List.length_append, List.length_cons, Nat.add_mul]
    have h1 := h x List.mem_cons_self
    have h2 := qK enc m l (fun y hy => h y (List.mem_cons_of_mem _ hy))
    omega
theorem qY : ∀ (l : List Int) (last : Int), kT last l = true → -1 ≤ last → (∀ n ∈ l, last < n ∧ n < 6) ∧ (l.length : Int) ≤ max 0 (5 - last)
  | [], last, _, _ => ⟨(fun _ h => by cases h), by simp; omega⟩
  | n :: l, last, h, h1 => by
    unfold kT at h
    simp only [Bool.and_eq_true, decide_eq_true_eq] at h
    obtain ⟨⟨ha, hb⟩, hc⟩ := h
    obtain ⟨i1, i2⟩ := qY l n hc (by omega)
    refine ⟨fun m hm => ?_, by simp only [List.length_cons]; omega⟩
    rcases List.mem_cons.1 hm with rfl | hm
    · exact ⟨ha, hb⟩
    · have := i1 m hm; omega
theorem yZ (l : List Int) (t : List UInt8) (h : kT (-1) l = true) : nP (kY l ++ t) = some (l, t) := by
  obtain ⟨h1, h2⟩ := qY l (-1) h (by omega)
  unfold nP kY
  rw [List.append_assoc, rQ _ 1 1 _ (by simp; omega) (by rw [List.length_append]; have := qK (layB · 1) 1 l (fun x _ => by rw [iP]; exact Nat.le_refl _); omega) (by omega)]
  simp only [Option.bind_some]
  exact qL _ _ l t (fun x hx t => mM x 1 t (by have := h1 x hx; omega) (by have := h1 x hx; simp; omega))
theorem uB (f : jK) : (mJ f).length = 9 + 4 * f.f0.length := by
  unfold mJ
  simp only [List.length_append, iP]
  have : ∀ l : List Int, (l.flatMap (layB · 4)).length = 4 * l.length := by
    intro l
    induction l with
    | nil => rfl
    | cons x l ih => rw [List.flatMap_cons, List.length_append, ih, iP, List.length_cons]; omega
  rw [this]
  omega
theorem QH (f : jK) (t : List UInt8) (h : nK f = true) (hk : xW f) : qA (mJ f ++ t) = some (f, t) := by
  unfold nK at h
  simp only [Bool.and_eq_true, decide_eq_true_eq, List.all_eq_true] at h
  obtain ⟨h1, h2⟩ := h
  unfold qA mJ
  rw [List.append_assoc, List.append_assoc, rQ _ 1 4 _ (by simp; omega) (by rw [List.length_append]; have := qK (layB · 4) 4 f.f0 (fun x _ => by rw [iP]; exact Nat.le_refl _); omega) (by omega)]
  simp only [Option.bind_some]
  rw [qL _ _ f.f0 _ (fun x hx t => mM x 4 t (h2 x hx).1 (by have := (h2 x hx).2; simp; omega))]
  simp only [Option.bind_some]
  rw [zI]
  simp only [Option.bind_some]
  rw [UZ _ hk.1 hk.2]
theorem yN (l : List jK) (t : List UInt8) (h : lF l = true) (hk : ∀ f ∈ l, xW f) : mW (jY l ++ t) = some (l, t) := by
  unfold lF at h
  simp only [Bool.and_eq_true, decide_eq_true_eq, List.all_eq_true] at h
  obtain ⟨h1, h2⟩ := h
  unfold mW jY
  rw [List.append_assoc, rQ _ 4 9 _ (by simp; omega) (by rw [List.length_append]; have := qK mJ 9 l (fun x _ => by rw [uB]; omega); omega) (by omega)]
  simp only [Option.bind_some]
  exact qL _ _ l t (fun x hx t => QH x t (h2 x hx) (hk x hx))
theorem vJ : ∀ (l : List jG) (p : Option Int), nG p l = true → ∀ e ∈ l, lF e.f1 = true
  | [], _, _, _, h => by cases h
  | e :: l, p, h, x, hx => by
    unfold nG at h
    simp only [Bool.and_eq_true] at h
    rcases List.mem_cons.1 hx with rfl | hx
    · exact h.1.1
    · exact vJ l _ h.2 x hx
theorem xY (l : List jG) (h : lZ l = true) : ∀ e ∈ l, lF e.f1 = true := vJ l none h
theorem NE (e : jG) (t : List UInt8) (h : lF e.f1 = true) (hk : uK e) : nO (kQ e ++ t) = some (e, t) := by
  unfold nO kQ
  rw [List.append_assoc, mM _ 4 _ hk.1 (by have := hk.2.1; simp; omega)]
  simp only [Option.bind_some]
  rw [yN _ _ h hk.2.2]
  rfl
theorem JF (l : List jG) (t : List UInt8) (h : lZ l = true) (h5 : l.length ≤ 5000) (hk : ∀ e ∈ l, uK e) : lL (jT l ++ t) = some (l, t) := by
  have h2 := xY l h
  unfold lL jT
  rw [List.append_assoc, rQ _ 4 8 _ (by simp; omega) (by rw [List.length_append]; have := qK kQ 8 l (fun x _ => by unfold kQ jY; simp only [List.length_append, iP]; omega); omega) (by omega)]
  simp only [Option.bind_some]
  exact qL _ _ l t (fun x hx t => NE x t (h2 x hx) (hk x hx))
theorem P9 (s : jW) (t : List UInt8) (h : lN s = true) : uF (mG s ++ t) = some (s, t) := by
  unfold lN at h
  simp only [Bool.and_eq_true, decide_eq_true_eq] at h
  unfold uF mG
  rw [List.append_assoc, mM _ 4 _ (by omega) (by simp; omega)]
  simp only [Option.bind_some]
  rw [mM _ 1 _ (by omega) (by simp; omega)]
  rfl
theorem OI (l : List jW) (t : List UInt8) (h : l.length ≤ 40) (h2 : ∀ s ∈ l, lN s = true) : pO (xA l ++ t) = some (l, t) := by
  unfold pO xA
  rw [List.append_assoc, rQ _ 1 5 _ (by simp; omega) (by rw [List.length_append]; have := qK mG 5 l (fun x _ => by unfold mG; simp only [List.length_append, iP]; omega); omega) (by omega)]
  simp only [Option.bind_some]
  exact qL _ _ l t (fun x hx t => P9 x t (h2 x hx))
theorem kR {α : Type} {l : List α} (h : l.isEmpty = true) : l = [] := List.isEmpty_iff.1 h
theorem IA (r : SRec) (t : List UInt8) (h : jL r = true) (hk : vU r) : recP (recE r ++ t) = some (r, t) := by
  obtain ⟨k, id, at_, nodes, facts, ⟨ep, sp⟩, from_, to_, en⟩ := r
  obtain ⟨hkind, hid, hat, hfacts, hep, hen⟩ := hk
  simp only at hkind hid hat hfacts hep hen
  unfold recP recE
  simp only
  rw [List.append_assoc, mM _ 1 _ hkind.1 (by simp; omega)]
  simp only [Option.bind_some]
  rw [List.append_assoc, mM _ 4 _ hid.1 (by simp; omega)]
  simp only [Option.bind_some]
  unfold jL at h
  simp only at h
  unfold rX yK
  simp only
  by_cases h1 : k = 1
  · rw [if_pos h1] at h ⊢
    rw [if_pos h1]
    simp only [Bool.and_eq_true, beq_iff_eq] at h
    obtain ⟨⟨⟨⟨⟨⟨⟨ha, hb⟩, rfl⟩, rfl⟩, hd⟩, rfl⟩, rfl⟩, hg⟩ := h
    rw [kR hd, kR hg, List.append_assoc, yZ _ _ ha]
    simp only [Option.bind_some]
    rw [yN _ _ hb hfacts]
    rfl
  rw [if_neg h1] at h ⊢
  rw [if_neg h1]
  by_cases h2 : k = 2
  · rw [if_pos h2] at h ⊢
    rw [if_pos h2]
    simp only [Bool.and_eq_true, beq_iff_eq] at h
    obtain ⟨⟨⟨⟨⟨⟨ha, hb⟩, rfl⟩, hd⟩, rfl⟩, rfl⟩, hg⟩ := h
    rw [kR hd, kR hg, kR hb, List.append_assoc, mM _ 4 _ hat.1 (by simp; omega)]
    simp only [Option.bind_some]
    rw [yZ _ _ ha]
    rfl
  rw [if_neg h2] at h ⊢
  rw [if_neg h2]
  by_cases h3 : (decide (k = 3) || decide (k = 4) || decide (k = 5)) = true
  · rw [if_pos h3] at h
    have h3' : k = 3 ∨ k = 4 ∨ k = 5 := by
      simp only [Bool.or_eq_true, decide_eq_true_eq] at h3
      omega
    rw [if_neg (by omega), if_neg (by omega), if_neg (by omega), if_neg (by omega)]
    simp only [Bool.and_eq_true, beq_iff_eq] at h
    obtain ⟨⟨⟨⟨⟨⟨⟨rfl, ha⟩, hb⟩, rfl⟩, hd⟩, rfl⟩, rfl⟩, hg⟩ := h
    rw [kR ha, kR hb, kR hd, kR hg]
    rfl
  rw [if_neg h3] at h
  by_cases h6 : k = 6
  · rw [if_pos h6] at h ⊢
    rw [if_pos h6]
    simp only [Bool.and_eq_true, beq_iff_eq, decide_eq_true_eq, List.all_eq_true] at h
    obtain ⟨⟨⟨⟨⟨⟨⟨⟨rfl, ha⟩, hb⟩, rfl⟩, hc⟩, hd⟩, rfl⟩, rfl⟩, hg⟩ := h
    rw [kR hc, kR hd, kR hg, List.append_assoc, mM _ 4 _ hep.1 (by simp; omega)]
    simp only [Option.bind_some]
    rw [OI _ _ ha hb]
    rfl
  rw [if_neg h6] at h ⊢
  rw [if_neg h6]
  by_cases h7 : k = 7
  · rw [if_pos h7] at h ⊢
    rw [if_pos h7]
    simp only [Bool.and_eq_true, beq_iff_eq, decide_eq_true_eq] at h
    obtain ⟨⟨⟨⟨⟨⟨⟨⟨⟨⟨ha, hb⟩, hc⟩, hd⟩, he⟩, hf⟩, rfl⟩, hg⟩, hi⟩, rfl⟩, hj⟩ := h
    rw [kR hg, kR hi, kR hj, List.append_assoc, List.append_assoc, mM _ 4 _ hc (by simp; omega)]
    simp only [Option.bind_some]
    rw [mM _ 4 _ he (by simp; omega)]
    simp only [Option.bind_some]
    rw [JF _ _ ha hb hen]
    rfl
  rw [if_neg h7] at h
  cases h
theorem QU (r s : SRec) (t u : List UInt8) (h : jL r = true) (hk : vU r) (h' : jL s = true) (hk' : vU s) (e : recE r ++ t = recE s ++ u) : r = s ∧ t = u := by
  have h1 := IA r t h hk
  rw [e, IA s u h' hk'] at h1
  simp only [Option.some.injEq, Prod.mk.injEq] at h1
  exact ⟨h1.1.symm, h1.2.symm⟩
end Go.Proofs.YtgfkgppomaapiaaDoor.K
end

section
namespace Go.Proofs.YtgfkgppomaapiaaDoor.K
open RowKit YtgfkgppomaapiaaDoorW.PrintWords YtgfkgppomaapiaaDoorW.PrintLast YtgfkgppomaapiaaDoorW.PrintMore My
def LZ (b : Bool) (w : World) (e : Ending) (w' : World) : Prop := ∃ r : Int, e = .returned (.int .i64 r) ∧ decide (0 ≤ r) = b ∧ Below w.heap.size w w'
theorem any_take_succ {α : Type} (p : α → Bool) (z : α) (l : List α) (k : Nat) (h : k < l.length) : (l.take (k + 1)).any p = ((l.take k).any p || p (l.getD k z)) := by
  rw [nD z l k h, List.any_append]
  simp
theorem JW {α : Type} (p : α → Bool) (z : α) (l : List α) (k : Nat) (h : k < l.length) (hp : p (l.getD k z) = true) : l.any p = true := by
  rw [List.any_eq_true]
  refine ⟨l.getD k z, ?_, hp⟩
  rw [List.getD_eq_getElem?_getD, List.getElem?_eq_getElem h]
  exact List.getElem_mem h
theorem I4 {α : Type} (p : α → Bool) (l : List α) (h : (l.take l.length).any p = false) : l.any p = false := by rwa [List.take_length] at h
def badV (v : Int) : Bool := decide (v < 0) || decide (9999 < v)
set_option maxHeartbeats 400000 in
theorem MQ (v : Int) (w : World) : Calls Tryd.prog 118 #[.int .i64 v] w fun e w' => e = .returned (.bool (badV v)) ∧ w = w' := by
  by_cases h0 : v < 0
  · have e : badV v = true := by unfold badV; rw [decide_eq_true h0]; rfl
    rw [e]
    clear e
    go_enter Tryd.func118, Tryd.ntmps118
    go_wp2
    go_ret
    exact ⟨rfl, rfl⟩
  · by_cases h1 : 9999 < v
    · have e : badV v = true := by unfold badV; rw [decide_eq_true h1]; simp
      rw [e]
      clear e
      go_enter Tryd.func118, Tryd.ntmps118
      go_wp2
      go_ret
      exact ⟨rfl, rfl⟩
    · have e : badV v = false := by unfold badV; rw [decide_eq_false h0, decide_eq_false h1]; rfl
      rw [e]
      clear e
      go_enter Tryd.func118, Tryd.ntmps118
      go_wp2
      go_ret
      exact ⟨rfl, rfl⟩
set_option maxHeartbeats 1000000 in
theorem NW (A : Option Addr) (c : Nat) (l : List Int) (w : World) (hr : Kd.C (Kd.int .i64) w A l.length l) :
    Calls Tryd.prog 129 #[.slice A l.length c, .func (.func 118) #[] #[]] w (LZ (l.any badV) w) := by
  have hm := lH hr
  have HR := iD.mk hr
  clear hr
  go_enter Tryd.func129, Tryd.ntmps129
  go_wp2
  go_loopg [5, 8] l.length (fun gg _ s8 wr => ∃ k : Nat, k ≤ l.length ∧ l.length - k ≤ gg ∧ s8 = .int .i64 k ∧ iD (w = wr) ∧ iD ((l.take k).any badV = false))
  case atStart => exact ⟨0, Nat.zero_le _, by omega, rfl, ⟨rfl⟩, ⟨rfl⟩⟩
  case round =>
    obtain ⟨k, hk, hg, rfl, HW, HA⟩ := hrel
    obtain rfl := HW.out
    by_cases hlt : k < l.length
    · obtain ⟨ad, rfl, hx⟩ := Kd.at_int HR.out (k : Int) (by omega) (by omega)
      have hsn := any_take_succ badV 0 l k hlt
      have hgd : rd l (k : Int) = l.getD k 0 := by unfold rd; rw [Int.toNat_natCast]
      rw [hgd, Int.toNat_natCast] at hx
      clear hgd
      obtain ⟨v, hv⟩ : ∃ v, v = l.getD k 0 := ⟨_, rfl⟩
      rw [← hv] at hx hsn
      cases hq : badV v with
      | true =>
        have HH := iD.mk (JW badV 0 l k hlt (by rw [← hv]; exact hq))
        have hcall := MQ v w
        rw [hq] at hcall
        clear hv hsn hq
        go_wp2_with (go_at_call 118; refine hcall.mono ?_; rintro e w' ⟨rfl, rfl⟩)
        go_ret
        exact ⟨k, rfl, by rw [HH.out]; simp, Below.refl _ _⟩
      | false =>
        have HN := iD.mk (show (l.take (k + 1)).any badV = false by rw [hsn, HA.out, hq]; rfl)
        have hcall := MQ v w
        rw [hq] at hcall
        clear hv hsn hq
        go_wp2_with (go_at_call 118; refine hcall.mono ?_; rintro e w' ⟨rfl, rfl⟩)
        go_roundg (l.length - (k + 1))
        case measure => omega
        case rel => exact ⟨k + 1, by omega, by omega, by go_num, ⟨rfl⟩, HN⟩
    · have : k = l.length := by omega
      subst this
      go_wp2
      go_ret
      exact ⟨-1, rfl, by rw [I4 _ _ HA.out]; rfl, Below.refl _ _⟩
set_option maxHeartbeats 400000 in
theorem O9 (A : Option Addr) (c : Nat) (l : List Int) (w : World) (hr : Kd.C (Kd.int .i64) w A l.length l) :
    Calls Tryd.prog 117 #[.slice A l.length c, .func (.func 118) #[] #[]] w fun e w' => e = .returned (.bool (l.any badV)) ∧ Below w.heap.size w w' := by
  have hcall := NW A c l w hr
  clear hr
  generalize l.any badV = b at hcall
  go_enter Tryd.func117, Tryd.ntmps117
  go_wp2_with (go_at_call 129; refine hcall.mono ?_; rintro e w' ⟨r, rfl, hr, hb⟩; have HR := iD.mk hr; clear hr)
  go_ret
  exact ⟨by rw [← HR.out]; rfl, hb⟩
theorem TK (f : jK) : nK f = (decide ((f.f0.length : Int) ≤ 4) && !f.f0.any badV) := by
  unfold nK
  congr 1
  · rw [decide_eq_decide]; omega
  · rw [List.any_eq_not_all_not, Bool.not_not]
    congr 1
    funext v
    unfold badV
    rw [Bool.eq_iff_iff]
    simp
set_option maxHeartbeats 1000000 in
theorem TR (A : Option Addr) (c : Nat) (f : jK) (w : World) (hr : Kd.C (Kd.int .i64) w A f.f0.length f.f0) :
    Calls Tryd.prog 94 #[.agg #[.slice A f.f0.length c, .int .i64 f.f1]] w fun e w' => e = .returned (.bool (nK f)) ∧ Below w.heap.size w w' := by
  have hcall := O9 A c f.f0 (w.alloc (.cells #[.slice A f.f0.length c, .int .i64 f.f1] 139)) (Kd.C_below hr (iF (Below.refl _ _) _))
  clear hr
  rw [TK]
  by_cases h4 : (f.f0.length : Int) ≤ 4
  · rw [decide_eq_true h4, Bool.true_and]
    generalize f.f0.any badV = b at hcall
    go_enter Tryd.func94, Tryd.ntmps94
    go_wp2_with (go_at_call 117; refine hcall.mono ?_; rintro e w' ⟨rfl, hb⟩)
    go_ret
    exact ⟨rfl, iL (iF (Below.refl _ _) _) hb⟩
  · rw [decide_eq_false h4, Bool.false_and]
    clear hcall
    go_enter Tryd.func94, Tryd.ntmps94
    go_wp2
    go_ret
    exact ⟨rfl, iF (Below.refl _ _) _⟩
set_option maxHeartbeats 400000 in
theorem JQ (A : Option Addr) (c : Nat) (f : jK) (w : World) (hr : Kd.C (Kd.int .i64) w A f.f0.length f.f0) :
    Calls Tryd.prog 93 #[.agg #[.slice A f.f0.length c, .int .i64 f.f1]] w fun e w' => e = .returned (.bool (!nK f)) ∧ Below w.heap.size w w' := by
  have hcall := TR A c f (w.alloc (.cells #[.slice A f.f0.length c, .int .i64 f.f1] 139)) (Kd.C_below hr (iF (Below.refl _ _) _))
  clear hr
  generalize nK f = b at hcall
  go_enter Tryd.func93, Tryd.ntmps93
  go_wp2_with (go_at_call 94; refine hcall.mono ?_; rintro e w' ⟨rfl, hb⟩)
  go_ret
  exact ⟨rfl, iL (iF (Below.refl _ _) _) hb⟩
def PW : jK := z139
set_option maxHeartbeats 1000000 in
theorem JX (A : Option Addr) (c : Nat) (l : List jK) (w : World) (hr : Kd.C k139 w A l.length l) :
    Calls Tryd.prog 116 #[.slice A l.length c, .func (.func 93) #[] #[]] w (LZ (l.any fun f => !nK f) w) := by
  have hm := lH hr
  have HR := iD.mk hr
  clear hr
  go_enter Tryd.func116, Tryd.ntmps116
  go_wp2
  go_loopg [5, 8] l.length (fun gg _ s8 wr => ∃ k : Nat, k ≤ l.length ∧ l.length - k ≤ gg ∧ s8 = .int .i64 k ∧ iD (Below w.heap.size w wr) ∧ iD ((l.take k).any (fun f => !nK f) = false))
  case atStart => exact ⟨0, Nat.zero_le _, by omega, rfl, ⟨Below.refl _ _⟩, ⟨rfl⟩⟩
  case round =>
    obtain ⟨k, hk, hg, rfl, HW, HA⟩ := hrel
    by_cases hlt : k < l.length
    · obtain ⟨ad, A1, c1, rfl, hx0, hx1, hl1, hC1⟩ := kG (Kd.C_below HR.out HW.out) (k : Int) (by omega) (by omega)
      have hsn := any_take_succ (fun f => !nK f) PW l k hlt
      have hgd : iU l (k : Int) = l.getD k PW := by unfold iU PW; rw [Int.toNat_natCast]
      rw [hgd] at hx0 hx1 hl1 hC1
      rw [Int.toNat_natCast] at hx0 hx1
      clear hgd
      obtain ⟨f, hf⟩ : ∃ v, v = l.getD k PW := ⟨_, rfl⟩
      rw [← hf] at hx0 hx1 hsn hl1 hC1
      have hcall := JQ A1 c1 f wr hC1
      cases hq : (!nK f) with
      | true =>
        have HH := iD.mk (JW (fun f => !nK f) PW l k hlt (by rw [← hf]; exact hq))
        rw [hq] at hcall
        clear hf hsn hq hC1 hl1
        go_wp2_with (go_at_call 93; refine hcall.mono ?_; rintro e w' ⟨rfl, hb⟩)
        go_ret
        exact ⟨k, rfl, by rw [HH.out]; simp, iL HW.out hb⟩
      | false =>
        have HN := iD.mk (show (l.take (k + 1)).any (fun f => !nK f) = false by rw [hsn, HA.out, hq]; rfl)
        rw [hq] at hcall
        clear hf hsn hq hC1 hl1
        go_wp2_with (go_at_call 93; refine hcall.mono ?_; rintro e w' ⟨rfl, hb⟩)
        go_roundg (l.length - (k + 1))
        case measure => omega
        case rel => exact ⟨k + 1, by omega, by omega, by go_num, ⟨iL HW.out hb⟩, HN⟩
    · have : k = l.length := by omega
      subst this
      go_wp2
      go_ret
      exact ⟨-1, rfl, by rw [I4 _ _ HA.out]; rfl, HW.out⟩
set_option maxHeartbeats 400000 in
theorem LX (A : Option Addr) (c : Nat) (l : List jK) (w : World) (hr : Kd.C k139 w A l.length l) :
    Calls Tryd.prog 92 #[.slice A l.length c, .func (.func 93) #[] #[]] w fun e w' => e = .returned (.bool (l.any fun f => !nK f)) ∧ Below w.heap.size w w' := by
  have hcall := JX A c l w hr
  clear hr
  generalize (l.any fun f => !nK f) = b at hcall
  go_enter Tryd.func92, Tryd.ntmps92
  go_wp2_with (go_at_call 116; refine hcall.mono ?_; rintro e w' ⟨r, rfl, hr, hb⟩; have HR := iD.mk hr; clear hr)
  go_ret
  exact ⟨by rw [← HR.out]; rfl, hb⟩
theorem RG (l : List jK) : lF l = (decide ((l.length : Int) ≤ 200) && !l.any fun f => !nK f) := by
  unfold lF
  congr 1
  · rw [decide_eq_decide]; omega
  · rw [List.any_eq_not_all_not, Bool.not_not]
    congr 1
    funext v
    simp
def code_batch.f (l0 : List jK) : Option Bool := some (lF l0)
set_option maxHeartbeats 1000000 in
theorem code_batch.calls (A0 : Option Addr) (c0 : Nat) (l0 : List jK) (r : Bool) (w : World) (hr0 : Kd.C k139 w A0 l0.length l0) (hc0 : l0.length ≤ c0) (h : code_batch.f l0 = some r) :
    Calls Tryd.prog 62 #[.slice A0 l0.length c0] w fun e w' => e = .returned (.bool r) ∧ Below w.heap.size w w' := by
  obtain rfl := Option.some.inj h
  have hm := lH hr0
  have hcall := LX A0 c0 l0 w hr0
  clear hr0 h
  rw [RG]
  by_cases h4 : (l0.length : Int) ≤ 200
  · rw [decide_eq_true h4, Bool.true_and]
    generalize (l0.any fun f => !nK f) = b at hcall
    go_enter Tryd.func62, Tryd.ntmps62
    go_wp2_with (go_at_call 92; refine hcall.mono ?_; rintro e w' ⟨rfl, hb⟩)
    go_ret
    exact ⟨rfl, hb⟩
  · rw [decide_eq_false h4, Bool.false_and]
    clear hcall
    go_enter Tryd.func62, Tryd.ntmps62
    go_wp2
    go_ret
    exact ⟨rfl, Below.refl _ _⟩
end Go.Proofs.YtgfkgppomaapiaaDoor.K
end

section
namespace Go.Proofs.YtgfkgppomaapiaaDoor.K
open Go.RowKit Go.Proofs.YtgfkgppomaapiaaDoorW.PrintWords Go.Proofs.YtgfkgppomaapiaaDoorW.PrintLast Go.Proofs.YtgfkgppomaapiaaDoorW.PrintMore
attribute [local go_sem] kC kN
def code_rises.l0 : Nat → Int → List Int → Int → Int → Option (Bool)
  | 0, _, _, _, _ => none
  | k + 1, x3, x6, x7, x8 => if x8 < x7 then (if 0 ≤ x8 then (if x8 < (x6.length : Int) then (if (rd x6 x8) ≤ x3 then (some false) else (if (rd x6 x8) ≥ 6 then (some false) else (code_rises.l0 k (rd x6 x8) x6 x7 (wrap64 (x8 + 1))))) else (none)) else (none)) else (some true)
def code_rises.f (k : Nat) (l0 : List Int) : Option (Bool) := code_rises.l0 k (-1) l0 (l0.length : Int) 0
set_option maxHeartbeats 8000000 in
set_option maxRecDepth 100000 in
theorem code_rises.calls (k : Nat) (A0 : Option Addr) (c0 : Nat) (l0 : List Int) (r : Bool) (w : World) (hr0 : Kd.C (Kd.int .i64) w A0 l0.length l0) (hc0 : l0.length ≤ c0) (h : code_rises.f k l0 = some r) :
    Calls Tryd.prog 61 #[.slice A0 l0.length c0] w fun e w' => e = .returned (.bool r) ∧ jC w w' := by
  have HR0 := iD.mk hr0
  have HC0 := iD.mk hc0
  clear hr0 hc0
  have H : (code_rises.l0 k (-1) l0 (l0.length : Int) 0) = some r := h
  clear h
  have H' := iD.mk H
  clear H
  go_enter Tryd.func61, Tryd.ntmps61
  go_wp2
  go_loopg [3, 8] k (fun kq v3 v8 w' => ∃ (x3_1 : Int) (x8_1 : Int), v3 = .int .i64 x3_1 ∧ v8 = .int .i64 x8_1 ∧ iD (code_rises.l0 kq x3_1 l0 (l0.length : Int) x8_1 = some r) ∧ iD (kq ≤ k) ∧ jC w w')
  case atStart => exact ⟨((-1)), (0), (by first | rfl | (simp; done) | (simp [*]; done)), (by first | rfl | (simp; done) | (simp [*]; done)), H', ⟨Nat.le_refl _⟩, by repeat (first | exact jC.refl _ | apply jC.step)⟩
  case round =>
    clear H'
    obtain ⟨x3_1, x8_1, rfl, rfl, HA, HK1, ⟨m1, rfl⟩⟩ := hrel
    cases gk with
    | zero => exact absurd HA.out (by simp [code_rises.l0])
    | succ k1 =>
      have H := HA.out
      clear HA
      simp only [code_rises.l0] at H
      by_cases c2 : x8_1 < (l0.length : Int)
      · rw [if_pos c2] at H
        have c2b0 : decide (x8_1 < (l0.length : Int)) = true := decide_eq_true c2
        clear c2
        by_cases c3 : 0 ≤ x8_1
        · rw [if_pos c3] at H
          have c3b0 : decide (0 ≤ x8_1) = true := decide_eq_true c3
          clear c3
          by_cases c4 : x8_1 < (l0.length : Int)
          · rw [if_pos c4] at H
            have c4b0 : decide (x8_1 < (l0.length : Int)) = true := decide_eq_true c4
            clear c4
            by_cases c5 : (rd l0 x8_1) ≤ x3_1
            · rw [if_pos c5] at H
              have c5b0 : decide ((rd l0 x8_1) ≤ x3_1) = true := decide_eq_true c5
              clear c5
              obtain rfl := Option.some.inj H
              have p106 : 0 ≤ (x8_1 : Int) := of_decide_eq_true asm_
              have q106 : x8_1 < (l0.length : Int) := of_decide_eq_true asm_
              obtain ⟨ad106, e106, hx106_0⟩ := Kd.at_int HR0.out x8_1 p106 q106
              cases e106
              replace p106 := eq_true p106
              replace q106 := eq_true q106
              go_wp2
              go_ret
              exact ⟨by first | rfl | (simp; done) | (simp [*]; done), by repeat (first | exact jC.refl _ | apply jC.step)⟩
            · rw [if_neg c5] at H
              have c5b0 : decide ((rd l0 x8_1) ≤ x3_1) = false := decide_eq_false c5
              clear c5
              by_cases c6 : (rd l0 x8_1) ≥ 6
              · rw [if_pos c6] at H
                have c6b0 : decide (6 ≤ (rd l0 x8_1)) = true := decide_eq_true c6
                clear c6
                obtain rfl := Option.some.inj H
                have p106 : 0 ≤ (x8_1 : Int) := of_decide_eq_true asm_
                have q106 : x8_1 < (l0.length : Int) := of_decide_eq_true asm_
                obtain ⟨ad106, e106, hx106_0⟩ := Kd.at_int HR0.out x8_1 p106 q106
                cases e106
                replace p106 := eq_true p106
                replace q106 := eq_true q106
                go_wp2
                go_ret
                exact ⟨by first | rfl | (simp; done) | (simp [*]; done), by repeat (first | exact jC.refl _ | apply jC.step)⟩
              · rw [if_neg c6] at H
                have c6b0 : decide (6 ≤ (rd l0 x8_1)) = false := decide_eq_false c6
                clear c6
                have H' := iD.mk H
                clear H
                have p106 : 0 ≤ (x8_1 : Int) := of_decide_eq_true asm_
                have q106 : x8_1 < (l0.length : Int) := of_decide_eq_true asm_
                obtain ⟨ad106, e106, hx106_0⟩ := Kd.at_int HR0.out x8_1 p106 q106
                cases e106
                replace p106 := eq_true p106
                replace q106 := eq_true q106
                go_wp2
                go_roundg k1
                case measure => have := HK1.out; omega
                case rel => exact ⟨(rd l0 x8_1), (wrap64 (x8_1 + 1)), (by first | rfl | (simp; done) | (simp [*]; done)), (by first | rfl | (simp; done) | (simp [*]; done)), H', ⟨by have := HK1.out; omega⟩, by repeat (first | exact jC.refl _ | apply jC.step)⟩
          · rw [if_neg c4] at H
            exact absurd H (by simp)
        · rw [if_neg c3] at H
          exact absurd H (by simp)
      · rw [if_neg c2] at H
        have c2b0 : decide (x8_1 < (l0.length : Int)) = false := decide_eq_false c2
        clear c2
        obtain rfl := Option.some.inj H
        go_wp2
        go_ret
        exact ⟨by first | rfl | (simp; done) | (simp [*]; done), by repeat (first | exact jC.refl _ | apply jC.step)⟩
end Go.Proofs.YtgfkgppomaapiaaDoor.K
end
