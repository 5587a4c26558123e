/- Parts of the proof, one behind the other: Base, Row, Card, Order, K0, CodeP, ReadN, ReadL, ReadS, Region, RegCS, ReadF, ReadE, CodeB, K4. -/
import Derived.Test.YtgfkgppomaapiaaDoorQMsgEncodes1
import Derived.Test.YtgfkgppomaapiaaDoorProg
import Derived.WalkSpells
import Derived.WalkLawsBesides
import Derived.RegionTactic
import Derived.ChangeAlike
import Derived.Lib.Hide
import Derived.Lib.SlBytesConst
import Derived.ProofKit
import Derived.OpenShut
import Derived.ShutString
import Derived.ChangeOld
import Derived.SizedLaws
import Derived.ChangeSlices
import Derived.Test.YtgfkgppomaapiaaDoorCards
import Derived.Test.YtgfkgppomaapiaaDoorTie
import Derived.LaidMore
import Derived.Stop.Joined
import Derived.Deep.DeepHandedRow
import Derived.Test.YtgfkgppomaapiaaDoorRows
import Derived.JoinedCond
import Derived.Laws.StructEq
import Derived.Lib.BufferMore
import Derived.Shelf.Abstract
set_option linter.unusedVariables false
set_option linter.unusedSimpArgs false
section
namespace Go.Proofs.YtgfkgppomaapiaaDoor.My
open Go Go.RowKit Go.Proofs.YtgfkgppomaapiaaDoorW.PrintWords
def kb : Kd UInt8 := Kd.scalar (fun b => Value.int .u8 (b.toNat : Int)) (fun _ => rfl)
theorem C_at {w : World} {A : Option Addr} {n : Nat} {l : List UInt8} (h : kb.C w A n l) (i : Nat) (hi : i < n) : ∃ ad, A = some ad ∧ w.cell? (ad.add i) = some (.int .u8 (l.getD i 0).toNat) := by
  obtain ⟨ad, c, e, hl, hK, hc⟩ := Kd.C_get h 0 (i : Int) (by omega) (by omega)
  have hK' : c = [.int .u8 (l.getD i 0).toNat] := hK
  subst hK'
  have := hc 0 _ rfl
  simp only [Int.toNat_natCast, Nat.add_zero] at this
  rw [show kb.sz = 1 from rfl, Nat.mul_one] at this
  exact ⟨ad, e, this⟩
theorem lC {α : Type} {d : Kd α} {w : World} {A : Option Addr} {n : Nat} {l : List α} (h : d.C w A n l) : n ≤ 9223372036854775807 := h.2.1
theorem X5 {w : World} {e : Nat} {A : Option Addr} {n : Nat} {l : List (List UInt8)} (h : (Kd.slice e kb).C w A n l) (i : Nat) (hi : i < n) :
    ∃ ad A' c', A = some ad ∧ w.cell? (ad.add i) = some (.slice A' (l.getD i []).length c') ∧ (l.getD i []).length ≤ c' ∧ kb.C w A' (l.getD i []).length (l.getD i []) := by
  obtain ⟨ad, c, e, hl, hK, hc⟩ := Kd.C_get h [] (i : Int) (by omega) (by omega)
  obtain ⟨A', c', rfl, h1, h2⟩ := hK
  have := hc 0 _ rfl
  simp only [Int.toNat_natCast, Nat.add_zero] at this h1 h2
  rw [show (Kd.slice _ kb).sz = 1 from rfl, Nat.mul_one] at this
  exact ⟨ad, A', c', e, this, h1, h2⟩
theorem lW {α : Type} (d : α) (l : List α) (k : Nat) (h : k < l.length) : l.take (k + 1) = l.take k ++ [l.getD k d] := by
  rw [List.take_succ_eq_append_getElem h, List.getD_eq_getElem?_getD, List.getElem?_eq_getElem h]; rfl
theorem XA {W : World} {b e : Nat} {cells : Array Value} {fz : Nat × Nat} {l : List UInt8} {n : Nat} (hb : b = W.heap.size) (hn : n = l.length) (hm : l.length ≤ 9223372036854775807) (hc : cells.toList = l.map fun x => Value.int .u8 (x.toNat : Int)) :
    kb.C (W.alloc (.cells cells e fz)) (some ⟨b, 0, none⟩) n l := by
  subst hb; subst hn
  refine ⟨rfl, hm, fun _ => ⟨_, rfl, fun j p hj => ⟨[.int .u8 (p.toNat : Int)], rfl, rfl, fun i u hi => ?_⟩⟩⟩
  have hi0 : i = 0 := by
    rcases i with _ | i
    · rfl
    · simp at hi
  subst hi0
  have hu : u = .int .u8 (p.toNat : Int) := by simpa using hi.symm
  subst hu
  have e1 : cells[j]? = some (.int .u8 (p.toNat : Int)) := by rw [← Array.getElem?_toList, hc, List.getElem?_map, hj]; rfl
  rw [add_plain, show kb.sz = 1 from rfl, Nat.mul_one, Nat.add_zero]
  show (match (W.heap.push _)[W.heap.size]? with | some (.cells c _ _) => _ | _ => _) = _
  simp [e1]
def Cs (W : World) (cs : List Value) (ls : List (List UInt8)) : Prop :=
  cs.length = ls.length ∧ ∀ (i : Nat) (l : List UInt8), ls[i]? = some l → ∃ A c, cs[i]? = some (.slice A l.length c) ∧ l.length ≤ c ∧ kb.C W A l.length l
theorem Cs.nil (W : World) : Cs W [] [] := ⟨rfl, fun i l h => by simp at h⟩
theorem Cs.cons {W : World} {cs : List Value} {ls : List (List UInt8)} {A : Option Addr} {c n : Nat} {l : List UInt8} (h : kb.C W A n l) (hc : n ≤ c) (hs : Cs W cs ls) : Cs W (.slice A n c :: cs) (l :: ls) := by
  have hn := h.1
  subst hn
  refine ⟨by simp [hs.1], fun i x hx => ?_⟩
  rcases i with _ | i
  · obtain rfl : l = x := by simpa using hx
    exact ⟨A, c, rfl, hc, h⟩
  · exact hs.2 i x (by simpa using hx)
theorem iV {W : World} {o : Obj} {b : Nat} (hb : b = W.heap.size) : (W.alloc o).heap[b]? = some o := by
  subst hb
  show (W.heap.push o)[W.heap.size]? = _
  simp
theorem jI {W : World} {o o' : Obj} {b : Nat} (h : W.heap[b]? = some o') : (W.alloc o).heap[b]? = some o' := by
  rw [Below.heap_alloc _ _ _ (jR h)]
  exact h
theorem iL {W W' : World} {o : Obj} {b : Nat} (hb : Below W.heap.size W W') (h : W.heap[b]? = some o) : W'.heap[b]? = some o := (hb.block b (jR h)).trans h
theorem XK {W : World} {b e t : Nat} {fz : Nat × Nat} {cells : Array Value} {ls : List (List UInt8)} {n : Nat} (hb : W.heap[b]? = some (.cells cells e fz)) (hn : n = ls.length) (hm : ls.length ≤ 9223372036854775807) (hc : Cs W cells.toList ls) :
    (Kd.slice t kb).C W (some ⟨b, 0, none⟩) n ls := by
  subst hn
  refine ⟨rfl, hm, fun _ => ⟨_, rfl, fun j p hj => ?_⟩⟩
  obtain ⟨A, c, h1, h2, h3⟩ := hc.2 j p hj
  refine ⟨[.slice A p.length c], rfl, ⟨A, c, rfl, h2, h3⟩, fun i u hi => ?_⟩
  have hi0 : i = 0 := by
    rcases i with _ | i
    · rfl
    · simp at hi
  subst hi0
  have hu : u = .slice A p.length c := by simpa using hi.symm
  subst hu
  rw [add_plain, show (Kd.slice _ kb).sz = 1 from rfl, Nat.mul_one, Nat.add_zero]
  have e1 : cells[j]? = some (.slice A p.length c) := by rw [← Array.getElem?_toList]; exact h1
  simp [World.cell?, hb, e1]
theorem yZ : (Tryd.prog.info? 5).map (·.size) = some 1 := by kernel_rfl
theorem XE {w : World} {A : Option Addr} {c : Nat} {l : List UInt8} (h : kb.C w A l.length l) (hc : l.length ≤ c) (lo : Nat) (loI : Int) (e1 : loI = lo) (h1 : lo ≤ l.length) :
    ∃ A', (∀ W : World, (Instr.slice 33 (.slice A l.length c) (some (.int .i64 loI)) none none).run Tryd.prog W = .ok (.slice A' (l.length - lo) (c - lo)) W) ∧ kb.C w A' (l.length - lo) (l.drop lo) := by
  subst e1
  obtain ⟨i, hi0, hsz⟩ := Option.map_eq_some_iff.1 yZ
  have hl : (l.drop lo).length = l.length - lo := List.length_drop
  refine ⟨if c = lo then A else A.map (·.add lo), fun W => ?_, ?_⟩
  · have hel : Tryd.prog.elem 33 = 5 := by simp [Program.elem, Tryd.underlying33]
    have hu : Tryd.prog.underlying 33 = some (.slice (Tryd.prog.elem 33)) := by rw [hel]; exact Tryd.underlying33
    rw [run_slice_l W 33 A l.length c hu .i64 (lo : Int) (Int.natCast_nonneg _) (by omega), hel]
    simp [sizeOf, typeInfo, hi0, hsz, sliced, Result.andThen]
  · have := Kd.C_drop h h1 hc
    rw [hl, show lo * kb.sz = lo from Nat.mul_one _] at this
    exact this
theorem XR (A : Option Addr) (n c hi : Nat) (hiI : Int) (e1 : hiI = hi) (h1 : hi ≤ n) (hc : n ≤ c) :
    ∀ W : World, (Instr.slice 33 (.slice A n c) none (some (.int .i64 hiI)) none).run Tryd.prog W = .ok (.slice A hi c) W := by
  subst e1
  intro W
  obtain ⟨i, hi0, hsz⟩ := Option.map_eq_some_iff.1 yZ
  have hel : Tryd.prog.elem 33 = 5 := by simp [Program.elem, Tryd.underlying33]
  have hu : Tryd.prog.underlying 33 = some (.slice (Tryd.prog.elem 33)) := by rw [hel]; exact Tryd.underlying33
  rw [run_slice_h W 33 A n c hu .i64 (hi : Int) (Int.natCast_nonneg _) (by omega), hel]
  simp [sizeOf, typeInfo, hi0, hsz, sliced, Result.andThen]
  intro _
  cases A with
  | none => rfl
  | some a => simp [Addr.add]
def bs (l : List UInt8) : ByteArray := ⟨l.toArray⟩
theorem RN (l : List UInt8) : (bs l).data.toList = l := by simp [bs]
theorem jL (l : List UInt8) : (bs l).toList = l := by rw [ByteArray.toList_eq, RN]
theorem pG {w : World} {A : Option Addr} {n : Nat} {l : List UInt8} (h : kb.C w A n l) : MQ w .u8 A n (l.map fun b => (b.toNat : Int)) := by
  refine ⟨by rw [List.length_map]; exact h.1, h.2.1, fun hn => ?_⟩
  obtain ⟨ad, e, _⟩ := h.2.2 hn
  refine ⟨ad, e, fun i hi => ?_⟩
  obtain ⟨ad', e', hc⟩ := C_at h i hi
  obtain rfl : ad = ad' := by rw [e] at e'; injection e'
  rw [hc, List.getD_eq_getElem?_getD, List.getD_eq_getElem?_getD, List.getElem?_map]
  rw [List.getElem?_eq_getElem (by have := h.1; omega)]
  rfl
theorem rY (l : List UInt8) : strOfNums (l.map fun b => (b.toNat : Int)) = bs l := by
  unfold strOfNums bs
  congr 1
  apply Array.ext'
  simp only [List.map_map]
  conv => rhs; rw [← List.map_id l]
  apply List.map_congr_left
  intro b _
  simp
theorem MC {w : World} {A : Option Addr} {n c : Nat} {l : List UInt8} (h : kb.C w A n l) : (convert 33 9 (.slice A n c)).run Tryd.prog w = .ok (.string (bs l)) w := by
  rw [← rY]
  exact qG Tryd.underlying33 Tryd.underlying5 Tryd.underlying9 (pG h)
theorem WA {w : World} {base e : Nat} {ok : Nat → Prop} {v : Value} {l : List UInt8} (h : kb.R e w base ok v l) (hp : 0 < l.length) :
    ∃ g cap, v = .slice (some ⟨g, 0, none⟩) l.length cap ∧ l.length ≤ cap ∧ base ≤ g ∧ ok g ∧ (∀ i, w.frozen? ⟨g, i, none⟩ = false) ∧ kb.C w (some ⟨g, 0, none⟩) l.length l := by
  have ho := Kd.own_of_R (enc := fun b : UInt8 => Value.int .u8 (b.toNat : Int)) (h1 := fun _ => rfl) h
  obtain ⟨g, cap, rfl, hb, hl⟩ := ho.form hp
  obtain ⟨A', c', e', h1, h2⟩ := Kd.R_reads h
  injection e' with e1 e2 e3
  subst e1; subst e3
  obtain ⟨cells, hc⟩ := qK ho g (by simp [Value.ownBlock])
  exact ⟨g, cap, rfl, h1, hb, h.1 g (by simp [Value.ownBlock]), fun i => iD hc i, h2⟩
theorem XW {W w1 : World} (hb : Below W.heap.size W w1) {a : Addr} {v : Value} (h : W.cell? a = some v) : w1.cell? a = some v := kC hb h
end Go.Proofs.YtgfkgppomaapiaaDoor.My
end
section
namespace Go.Proofs.YtgfkgppomaapiaaDoorW.PrintMore
open Go Go.RowKit Go.Proofs.YtgfkgppomaapiaaDoorW.PrintWords Go.Proofs.YtgfkgppomaapiaaDoorW.PrintLast Go.Proofs.YtgfkgppomaapiaaDoorW.PrintMore
theorem bel_ {p : Prop} (h : p := by (with_reducible (repeat (first | exact Below.refl _ _ | apply iF | apply lG | apply iG | apply Go.Proofs.YtgfkgppomaapiaaDoor.My.below_bytesWorld | (refine iM ?_ (by first | assumption | omega)) | refine iI ?_ (by assumption))))) : p := h
theorem hb_ {p : Prop} (h : p := by repeat (first | (with_reducible first | exact HB.out | apply iF | apply iG | apply iJ) | exact HB.out)) : p := h
theorem asm_ {p : Prop} (h : p := by first | (with_reducible assumption) | assumption) : p := h
theorem bk_ {p q : Prop} (h : p) (f : p → q := by intro h; (with_reducible repeat (first | refine iK ?_ _ | refine iO ?_ | refine iH ?_ _)); exact h) : q := f h
end Go.Proofs.YtgfkgppomaapiaaDoorW.PrintMore
end

section
namespace Go.Proofs.YtgfkgppomaapiaaDoor.My
open Go Go.RowKit Go.Proofs.YtgfkgppomaapiaaDoorW.PrintWords
theorem own : ownKnob Tryd.prog.godebug = none := by kernel_rfl
theorem laidOut : laidOutB Tryd.prog = true := by kernel_rfl
theorem wf_u8 {n : Int} (h : (Lit.int .u8 n).wf = true) : 0 ≤ n ∧ n < 256 := by
  have := bounds_u8 h
  omega
theorem wf_i64 {n : Int} (h : (Lit.int .i64 n).wf = true) : -9223372036854775808 ≤ n ∧ n ≤ 9223372036854775807 := by
  have := bounds_i64 h
  omega
theorem wf_u32 {n : Int} (h : (Lit.int .u32 n).wf = true) : 0 ≤ n ∧ n < 4294967296 := by
  have := bounds_u32 h
  omega
end Go.Proofs.YtgfkgppomaapiaaDoor.My
end

section
namespace Go.Proofs.YtgfkgppomaapiaaDoor.My
open Go Go.RowKit
theorem door_met (os : Os) (args : Array Value) : laidMetH Tryd.prog [("bytes.ErrTooLarge", Rows.laid_bytes_ErrTooLarge)] ((World.doorLaid Tryd.prog 400 os).forCall (fun _ _ => 0) ⟨#[], args, []⟩).memory :=
  show laidMetH Tryd.prog [("bytes.ErrTooLarge", Rows.laid_bytes_ErrTooLarge)] _ from laidMetH_of_parts3 (fuel := 8) (laidMet_of_run' 8 (by kernel_rfl) (by kernel_rfl)) (by kernel_rfl) (by kernel_rfl)
theorem MI (os : Os) (args : Array Value) : ((World.doorLaid Tryd.prog 400 os).forCall (fun _ _ => 0) ⟨#[], args, []⟩).Shaped Tryd.prog := World.shaped_of_RefB (by kernel_rfl) (by kernel_rfl)
theorem witness_door {H : Type} {enc : TypeId × Value → H} {os : Os} {f : FuncId} {fn : Func} {s : OpenSpec} (args : Array Value) {x : List (DataW H) × List (DataW H) × List MemPlace}
    (hok : Input.okWideB Tryd.prog ((World.doorLaid Tryd.prog 400 os).forCall (fun _ _ => 0) ⟨#[], args, []⟩) f ⟨#[], args, []⟩ = true)
    (hx : DataW.whole enc Tryd.prog ((World.doorLaid Tryd.prog 400 os).forCall (fun _ _ => 0) ⟨#[], args, []⟩).memory fn.params.toList s.vars false args.toList 8 = some x)
    (hkk : ∀ k, s.cond = some k → k H (x.1 ++ x.2.1) = true)
    (hsz : s.bare.sizedB enc Tryd.prog fn false ((World.doorLaid Tryd.prog 400 os).forCall (fun _ _ => 0) ⟨#[], args, []⟩).memory args 8 = true) :
    ∃ (w : World) (tape : Tape) (i : Input), w.os = os ∧ (w.forCall tape i).Shaped Tryd.prog ∧ i.vars = [] ∧ Input.okWide Tryd.prog (w.forCall tape i) .any w.heap.size f i ∧
      s.preRow enc Tryd.prog fn [] false [("bytes.ErrTooLarge", Rows.laid_bytes_ErrTooLarge)] (w.forCall tape i).memory i.args ∧ ({} : Assume).holds Tryd.prog (lone (Frame.enter Tryd.prog f i.args .normal) [] (w.forCall tape i)) :=
  ⟨World.doorLaid Tryd.prog 400 os, fun _ _ => 0, ⟨#[], args, []⟩, rfl, MI os args, (Input.okWide_of_okWideB (base := 0) hok).1, (Input.okWide_of_okWideB hok).2,
    OpenSpec.preRow_of_cond 8 hx rfl hkk hsz (door_met os args), by
    simp only [Assume.holds]
    exact ⟨by simp, by simp, fun _ => Modest.zero, by simp, by simp⟩⟩
end Go.Proofs.YtgfkgppomaapiaaDoor.My
end

section
namespace Go.Proofs.YtgfkgppomaapiaaDoor.My
open Go
set_option maxRecDepth 100000
theorem OH (c : Char) (h : c ≠ Char.ofNat 32) {r w : List Char} {ws : List (List Char)} (hr : wordsSigns r = w :: ws) : wordsSigns (c :: r) = (c :: w) :: ws := by
  unfold wordsSigns
  split
  · rename_i heq; cases heq
  · rename_i heq; injection heq with h1 _; exact absurd h1 h
  · rename_i heq; injection heq with h1 h2; subst h1; subst h2; rw [hr]
theorem uO : ∀ (w : List Char), (w.all fun c => decide (c ≠ Char.ofNat 32)) = true → ∀ r, wordsSigns (w ++ Char.ofNat 32 :: r) = w :: wordsSigns r
  | [], _, r => rfl
  | c :: w, h, r => by
    simp only [List.all_cons, Bool.and_eq_true, decide_eq_true_eq] at h
    exact OH c h.1 (uO w h.2 r)
def WW : List Char := [Char.ofNat 104, Char.ofNat 97, Char.ofNat 114, Char.ofNat 110, Char.ofNat 101, Char.ofNat 115, Char.ofNat 115]
def VP : List Char := [Char.ofNat 102, Char.ofNat 97, Char.ofNat 54, Char.ofNat 55, Char.ofNat 50, Char.ofNat 100, Char.ofNat 57, Char.ofNat 50, Char.ofNat 53, Char.ofNat 102, Char.ofNat 97, Char.ofNat 49, Char.ofNat 102, Char.ofNat 56, Char.ofNat 50, Char.ofNat 98, Char.ofNat 49, Char.ofNat 102, Char.ofNat 49, Char.ofNat 52,
    Char.ofNat 54, Char.ofNat 55, Char.ofNat 100, Char.ofNat 101, Char.ofNat 49, Char.ofNat 57, Char.ofNat 57, Char.ofNat 54, Char.ofNat 100, Char.ofNat 99, Char.ofNat 50, Char.ofNat 100, Char.ofNat 49, Char.ofNat 50, Char.ofNat 49, Char.ofNat 52, Char.ofNat 52, Char.ofNat 101, Char.ofNat 54, Char.ofNat 56,
    Char.ofNat 51, Char.ofNat 54, Char.ofNat 57, Char.ofNat 102, Char.ofNat 99, Char.ofNat 53, Char.ofNat 48, Char.ofNat 54, Char.ofNat 48, Char.ofNat 57, Char.ofNat 48, Char.ofNat 97, Char.ofNat 50, Char.ofNat 57, Char.ofNat 97, Char.ofNat 48, Char.ofNat 50, Char.ofNat 51, Char.ofNat 49, Char.ofNat 57,
    Char.ofNat 97, Char.ofNat 101, Char.ofNat 56, Char.ofNat 97]
def word2 : List Char := [Char.ofNat 99, Char.ofNat 117, Char.ofNat 116]
def behind : List Char := [Char.ofNat 97, Char.ofNat 116, Char.ofNat 32, Char.ofNat 115, Char.ofNat 116, Char.ofNat 114, Char.ofNat 97, Char.ofNat 116, Char.ofNat 117, Char.ofNat 109, Char.ofNat 47, Char.ofNat 115, Char.ofNat 116, Char.ofNat 114, Char.ofNat 97, Char.ofNat 116, Char.ofNat 117, Char.ofNat 109, Char.ofNat 108, Char.ofNat 97,
    Char.ofNat 119, Char.ofNat 48, Char.ofNat 55, Char.ofNat 46, Char.ofNat 67, Char.ofNat 111, Char.ofNat 100, Char.ofNat 101, Char.ofNat 69, Char.ofNat 110, Char.ofNat 99, Char.ofNat 111, Char.ofNat 100, Char.ofNat 101, Char.ofNat 115, Char.ofNat 32, Char.ofNat 115, Char.ofNat 116, Char.ofNat 114, Char.ofNat 97,
    Char.ofNat 116, Char.ofNat 117, Char.ofNat 109, Char.ofNat 47, Char.ofNat 115, Char.ofNat 116, Char.ofNat 114, Char.ofNat 97, Char.ofNat 116, Char.ofNat 117, Char.ofNat 109, Char.ofNat 108, Char.ofNat 97, Char.ofNat 119, Char.ofNat 48, Char.ofNat 55, Char.ofNat 46, Char.ofNat 67, Char.ofNat 111, Char.ofNat 100,
    Char.ofNat 101, Char.ofNat 77, Char.ofNat 97, Char.ofNat 107, Char.ofNat 101, Char.ofNat 115, Char.ofNat 32, Char.ofNat 115, Char.ofNat 116, Char.ofNat 114, Char.ofNat 97, Char.ofNat 116, Char.ofNat 117, Char.ofNat 109, Char.ofNat 47, Char.ofNat 115, Char.ofNat 116, Char.ofNat 114, Char.ofNat 97, Char.ofNat 116,
    Char.ofNat 117, Char.ofNat 109, Char.ofNat 108, Char.ofNat 97, Char.ofNat 119, Char.ofNat 48, Char.ofNat 55, Char.ofNat 46, Char.ofNat 67, Char.ofNat 111, Char.ofNat 100, Char.ofNat 101, Char.ofNat 68, Char.ofNat 101, Char.ofNat 99, Char.ofNat 111, Char.ofNat 100, Char.ofNat 101, Char.ofNat 115, Char.ofNat 32,
    Char.ofNat 115, Char.ofNat 116, Char.ofNat 114, Char.ofNat 97, Char.ofNat 116, Char.ofNat 117, Char.ofNat 109, Char.ofNat 47, Char.ofNat 115, Char.ofNat 116, Char.ofNat 114, Char.ofNat 97, Char.ofNat 116, Char.ofNat 117, Char.ofNat 109, Char.ofNat 108, Char.ofNat 97, Char.ofNat 119, Char.ofNat 49, Char.ofNat 54,
    Char.ofNat 46, Char.ofNat 77, Char.ofNat 115, Char.ofNat 103, Char.ofNat 69, Char.ofNat 110, Char.ofNat 99, Char.ofNat 111, Char.ofNat 100, Char.ofNat 101, Char.ofNat 115, Char.ofNat 32, Char.ofNat 115, Char.ofNat 116, Char.ofNat 114, Char.ofNat 97, Char.ofNat 116, Char.ofNat 117, Char.ofNat 109, Char.ofNat 47,
    Char.ofNat 115, Char.ofNat 116, Char.ofNat 114, Char.ofNat 97, Char.ofNat 116, Char.ofNat 117, Char.ofNat 109, Char.ofNat 108, Char.ofNat 97, Char.ofNat 119, Char.ofNat 49, Char.ofNat 54, Char.ofNat 46, Char.ofNat 77, Char.ofNat 115, Char.ofNat 103, Char.ofNat 68, Char.ofNat 101, Char.ofNat 99, Char.ofNat 111,
    Char.ofNat 100, Char.ofNat 101, Char.ofNat 115, Char.ofNat 32, Char.ofNat 115, Char.ofNat 116, Char.ofNat 114, Char.ofNat 97, Char.ofNat 116, Char.ofNat 117, Char.ofNat 109, Char.ofNat 47, Char.ofNat 115, Char.ofNat 116, Char.ofNat 114, Char.ofNat 97, Char.ofNat 116, Char.ofNat 117, Char.ofNat 109, Char.ofNat 108,
    Char.ofNat 97, Char.ofNat 119, Char.ofNat 49, Char.ofNat 54, Char.ofNat 46, Char.ofNat 77, Char.ofNat 115, Char.ofNat 103, Char.ofNat 66, Char.ofNat 97, Char.ofNat 99, Char.ofNat 107, Char.ofNat 32, Char.ofNat 115, Char.ofNat 116, Char.ofNat 114, Char.ofNat 97, Char.ofNat 116, Char.ofNat 117, Char.ofNat 109,
    Char.ofNat 47, Char.ofNat 115, Char.ofNat 116, Char.ofNat 114, Char.ofNat 97, Char.ofNat 116, Char.ofNat 117, Char.ofNat 109, Char.ofNat 108, Char.ofNat 97, Char.ofNat 119, Char.ofNat 49, Char.ofNat 54, Char.ofNat 46, Char.ofNat 77, Char.ofNat 115, Char.ofNat 103, Char.ofNat 79, Char.ofNat 110, Char.ofNat 108,
    Char.ofNat 121, Char.ofNat 32, Char.ofNat 115, Char.ofNat 116, Char.ofNat 114, Char.ofNat 97, Char.ofNat 116, Char.ofNat 117, Char.ofNat 109, Char.ofNat 47, Char.ofNat 115, Char.ofNat 116, Char.ofNat 114, Char.ofNat 97, Char.ofNat 116, Char.ofNat 117, Char.ofNat 109, Char.ofNat 108, Char.ofNat 97, Char.ofNat 119,
    Char.ofNat 49, Char.ofNat 54, Char.ofNat 46, Char.ofNat 77, Char.ofNat 115, Char.ofNat 103, Char.ofNat 65, Char.ofNat 112, Char.ofNat 97, Char.ofNat 114, Char.ofNat 116, Char.ofNat 32, Char.ofNat 115, Char.ofNat 116, Char.ofNat 114, Char.ofNat 97, Char.ofNat 116, Char.ofNat 117, Char.ofNat 109, Char.ofNat 47,
    Char.ofNat 115, Char.ofNat 116, Char.ofNat 114, Char.ofNat 97, Char.ofNat 116, Char.ofNat 117, Char.ofNat 109, Char.ofNat 108, Char.ofNat 97, Char.ofNat 119, Char.ofNat 49, Char.ofNat 54, Char.ofNat 46, Char.ofNat 77, Char.ofNat 115, Char.ofNat 103, Char.ofNat 75, Char.ofNat 105, Char.ofNat 110, Char.ofNat 100,
    Char.ofNat 115, Char.ofNat 32, Char.ofNat 115, Char.ofNat 116, Char.ofNat 114, Char.ofNat 97, Char.ofNat 116, Char.ofNat 117, Char.ofNat 109, Char.ofNat 47, Char.ofNat 115, Char.ofNat 116, Char.ofNat 114, Char.ofNat 97, Char.ofNat 116, Char.ofNat 117, Char.ofNat 109, Char.ofNat 108, Char.ofNat 97, Char.ofNat 119,
    Char.ofNat 49, Char.ofNat 49, Char.ofNat 46, Char.ofNat 87, Char.ofNat 97, Char.ofNat 108, Char.ofNat 82, Char.ofNat 111, Char.ofNat 111, Char.ofNat 109, Char.ofNat 32, Char.ofNat 115, Char.ofNat 116, Char.ofNat 114, Char.ofNat 97, Char.ofNat 116, Char.ofNat 117, Char.ofNat 109, Char.ofNat 47, Char.ofNat 115,
    Char.ofNat 116, Char.ofNat 114, Char.ofNat 97, Char.ofNat 116, Char.ofNat 117, Char.ofNat 109, Char.ofNat 108, Char.ofNat 97, Char.ofNat 119, Char.ofNat 49, Char.ofNat 49, Char.ofNat 46, Char.ofNat 87, Char.ofNat 97, Char.ofNat 108, Char.ofNat 70, Char.ofNat 114, Char.ofNat 111, Char.ofNat 110, Char.ofNat 116,
    Char.ofNat 115, Char.ofNat 32, Char.ofNat 115, Char.ofNat 116, Char.ofNat 114, Char.ofNat 97, Char.ofNat 116, Char.ofNat 117, Char.ofNat 109, Char.ofNat 47, Char.ofNat 115, Char.ofNat 116, Char.ofNat 114, Char.ofNat 97, Char.ofNat 116, Char.ofNat 117, Char.ofNat 109, Char.ofNat 108, Char.ofNat 97, Char.ofNat 119,
    Char.ofNat 49, Char.ofNat 49, Char.ofNat 46, Char.ofNat 87, Char.ofNat 97, Char.ofNat 108, Char.ofNat 76, Char.ofNat 97, Char.ofNat 115, Char.ofNat 116, Char.ofNat 115]
theorem UL : Tryd.prog.initOrder = String.ofList (WW ++ Char.ofNat 32 :: (VP ++ Char.ofNat 32 :: (word2 ++ Char.ofNat 32 :: behind))) := by kernel_rfl
theorem xR : wordsSigns Tryd.prog.initOrder.toList = WW :: VP :: word2 :: wordsSigns behind := by
  rw [UL, String.toList_ofList, uO _ (by kernel_rfl), uO _ (by kernel_rfl), uO _ (by kernel_rfl)]
theorem qN : behindMainWord (wordsSigns Tryd.prog.initOrder.toList) = word2 :: wordsSigns behind := by rw [xR]; kernel_rfl
theorem WB {P : Program} {h s : List Char} {r : List (List Char)} (e : wordsSigns P.initOrder.toList = h :: s :: r) : P.mainIs = (if !isSumSigns s then none else if h == "harness".toList then some (true, s) else if h == "ownmain".toList then some (false, s) else none) := by unfold Program.mainIs; rw [e]
theorem VQ {P : Program} {c : List Char} {r : List (List Char)} (e : behindMainWord (wordsSigns P.initOrder.toList) = c :: r) (h1 : (c == "gc".toList || c == "spec".toList) = false) (h2 : (c == "cut".toList) = true) : P.make = some .cut := by
  unfold Program.make; rw [e]; simp only [h1, h2]; rfl
theorem WY {P : Program} {c : List Char} {r : List (List Char)} (e : behindMainWord (wordsSigns P.initOrder.toList) = c :: r) (h : ((stripLifts liftWords (c :: r)).2.head? == some "cut".toList && ((stripLifts liftWords (c :: r)).1.contains "finals" || !P.laysLater) && ((stripLifts liftWords (c :: r)).1.contains "reflectrows" || !P.bearsReflect) && ((stripLifts liftWords (c :: r)).1.contains "reflectrows" || !(stripLifts liftWords (c :: r)).1.contains "leanrows") && P.doorFits (stripLifts liftWords (c :: r)).1) = true) : P.mayEnter = true := by
  unfold Program.mayEnter; rw [e]; simp only [h, Bool.or_true]
theorem U8 : stripLifts liftWords (word2 :: wordsSigns behind) = ([], word2 :: wordsSigns behind) := by kernel_rfl
theorem P8 : Tryd.prog.mayEnter = true := WY qN (by rw [U8]; kernel_rfl)
theorem JW : Tryd.prog.liftsFinal = false := by unfold Program.liftsFinal Program.headLifts; rw [qN]; kernel_rfl
theorem OV : Tryd.prog.make = some .cut := VQ qN (by kernel_rfl) (by kernel_rfl)
theorem sum_is : ("fa672d925fa1f82b1f1467de1996dc2d12144e68369fc506090a29a02319ae8a" : String) = String.ofList VP := by kernel_rfl
theorem NW : Tryd.prog.mainIs = some (true, ("fa672d925fa1f82b1f1467de1996dc2d12144e68369fc506090a29a02319ae8a" : String).toList) := by rw [sum_is, String.toList_ofList]; exact (WB xR).trans (by kernel_rfl)
theorem pin_may : Tryd.pinned.checked.prog.mayEnter = true := P8
theorem pin_final : Tryd.pinned.checked.prog.liftsFinal = false := JW
theorem pin_make : Tryd.pinned.checked.prog.make = some .cut := OV
theorem pin_main : Tryd.pinned.checked.prog.mainIs = some (true, ("fa672d925fa1f82b1f1467de1996dc2d12144e68369fc506090a29a02319ae8a" : String).toList) := NW
theorem band {a b : Bool} (ha : a = true) (hb : b = true) : (a && b) = true := by rw [ha, hb]; rfl
end Go.Proofs.YtgfkgppomaapiaaDoor.My
end

section
namespace Go.Proofs.YtgfkgppomaapiaaDoor.K
open Go.RowKit Go.Proofs.YtgfkgppomaapiaaDoorW.PrintWords Go.Proofs.YtgfkgppomaapiaaDoorW.PrintLast Go.Proofs.YtgfkgppomaapiaaDoorW.PrintMore
attribute [local go_sem] kH kS
def errW : Option Int → Value
  | none => .nilIface
  | some c => .iface 0 (.int .i64 c)
theorem iT : errW none = .nilIface := rfl
theorem iU (c : Int) : errW (some c) = .iface 0 (.int .i64 c) := rfl
theorem info3 : (Tryd.prog.info? 3).map (fun i => (i.zero, i.size, i.bytes)) = some (some (.int .i64 0), 1, 8) := by kernel_rfl
theorem info5 : (Tryd.prog.info? 5).map (fun i => (i.zero, i.size, i.bytes)) = some (some (.int .u8 0), 1, 1) := by kernel_rfl
theorem VC : (Tryd.prog.info? 86).map (fun i => (i.zero, i.size, i.bytes)) = some (some (.agg #[(.int .u32 0), (.slice none 0 0)]), 2, 32) := by kernel_rfl
theorem V7 : (Tryd.prog.info? 98).map (fun i => (i.zero, i.size, i.bytes)) = some (some (.agg #[(.int .i64 0), (.int .i64 0)]), 2, 16) := by kernel_rfl
structure S139 where
  f0 : (List Int)
  f1 : Int
def z139 : S139 := ⟨([] : List Int), (0 : Int)⟩
def k139 : Kd S139 := Kd.iso (Kd.pair (Kd.slice 3 (Kd.int .i64)) (Kd.int .i64)) (fun x : S139 => (x.f0, x.f1))
theorem JB : Kd.Heap k139 := Kd.heap_iso _ (Kd.heap_pair (Kd.heap_slice 3 (Kd.heap_int .i64)) (Kd.heap_int .i64))
theorem PI {w : World} {x : S139} {cs : List Value} (h : k139.K w x cs) : ∃ A0 c0, cs = [.slice A0 x.f0.length c0, .int .i64 x.f1] ∧ x.f0.length ≤ c0 ∧ (Kd.int .i64).C w A0 x.f0.length x.f0 := by
  obtain ⟨_, _, rfl, ⟨A0, c0, rfl, l0, g0⟩, rfl⟩ := h
  exact ⟨A0, c0, rfl, l0, g0⟩
theorem IC (w : World) (base : Nat) (ok : Nat → Prop) (x : S139) {v0 : Value} (g0 : (Kd.int .i64).R 3 w base ok v0 x.f0) : k139.M w base ok x [v0, .int .i64 x.f1] := ⟨[v0], [.int .i64 x.f1], rfl, ⟨v0, rfl, g0⟩, rfl⟩
def iQ (xs : List S139) (i : Int) : S139 := xs.getD i.toNat z139
theorem kK {w : World} {A : Option Addr} {n : Nat} {xs : List S139} (h : Kd.C k139 w A n xs) (i : Int) (h0 : 0 ≤ i) (h1 : i < n) : ∃ ad A0 c0, A = some ad ∧ w.cell? (ad.add (i.toNat * 2)) = some (.slice A0 (iQ xs i).f0.length c0) ∧ w.cell? ⟨(ad.add (i.toNat * 2)).block, (ad.add (i.toNat * 2)).off + 1, none⟩ = some (.int .i64 (iQ xs i).f1) ∧ (iQ xs i).f0.length ≤ c0 ∧ (Kd.int .i64).C w A0 (iQ xs i).f0.length (iQ xs i).f0 := by
  obtain ⟨ad, c, e, _, hK, hc0⟩ := Kd.C_get h z139 i h0 h1
  have hc : ∀ j u, c[j]? = some u → w.cell? (ad.add (i.toNat * 2 + j)) = some u := hc0
  obtain ⟨A0, c0, rfl, l0, g0⟩ := PI hK
  exact ⟨ad, A0, c0, e, hc 0 _ rfl, by rw [← xZ _ _ 1 (by omega)]; exact hc 1 _ rfl, l0, g0⟩
structure S86 where
  f0 : Int
  f1 : (List S139)
def z86 : S86 := ⟨(0 : Int), ([] : List S139)⟩
def k86 : Kd S86 := Kd.iso (Kd.pair (Kd.int .u32) (Kd.slice 139 k139)) (fun x : S86 => (x.f0, x.f1))
theorem U3 {w : World} {x : S86} {cs : List Value} (h : k86.K w x cs) : ∃ A1 c1, cs = [.int .u32 x.f0, .slice A1 x.f1.length c1] ∧ x.f1.length ≤ c1 ∧ k139.C w A1 x.f1.length x.f1 := by
  obtain ⟨_, _, rfl, rfl, ⟨A1, c1, rfl, l1, g1⟩⟩ := h
  exact ⟨A1, c1, rfl, l1, g1⟩
theorem PK (w : World) (base : Nat) (ok : Nat → Prop) (x : S86) {v1 : Value} (g1 : k139.R 139 w base ok v1 x.f1) : k86.M w base ok x [.int .u32 x.f0, v1] := ⟨[.int .u32 x.f0], [v1], rfl, rfl, ⟨v1, rfl, g1⟩⟩
def iR (xs : List S86) (i : Int) : S86 := xs.getD i.toNat z86
theorem kT {w : World} {A : Option Addr} {n : Nat} {xs : List S86} (h : Kd.C k86 w A n xs) (i : Int) (h0 : 0 ≤ i) (h1 : i < n) : ∃ ad A1 c1, A = some ad ∧ w.cell? (ad.add (i.toNat * 2)) = some (.int .u32 (iR xs i).f0) ∧ w.cell? ⟨(ad.add (i.toNat * 2)).block, (ad.add (i.toNat * 2)).off + 1, none⟩ = some (.slice A1 (iR xs i).f1.length c1) ∧ (iR xs i).f1.length ≤ c1 ∧ k139.C w A1 (iR xs i).f1.length (iR xs i).f1 := by
  obtain ⟨ad, c, e, _, hK, hc0⟩ := Kd.C_get h z86 i h0 h1
  have hc : ∀ j u, c[j]? = some u → w.cell? (ad.add (i.toNat * 2 + j)) = some u := hc0
  obtain ⟨A1, c1, rfl, l1, g1⟩ := U3 hK
  exact ⟨ad, A1, c1, e, hc 0 _ rfl, by rw [← xZ _ _ 1 (by omega)]; exact hc 1 _ rfl, l1, g1⟩
structure S98 where
  f0 : Int
  f1 : Int
def z98 : S98 := ⟨(0 : Int), (0 : Int)⟩
def k98 : Kd S98 := Kd.iso (Kd.pair (Kd.int .i64) (Kd.int .i64)) (fun x : S98 => (x.f0, x.f1))
theorem UB {w : World} {x : S98} {cs : List Value} (h : k98.K w x cs) : cs = [.int .i64 x.f0, .int .i64 x.f1] := by
  obtain ⟨_, _, rfl, rfl, rfl⟩ := h
  exact rfl
theorem QB (w : World) (base : Nat) (ok : Nat → Prop) (x : S98)  : k98.M w base ok x [.int .i64 x.f0, .int .i64 x.f1] := ⟨[.int .i64 x.f0], [.int .i64 x.f1], rfl, rfl, rfl⟩
def kG (xs : List S98) (i : Int) : S98 := xs.getD i.toNat z98
theorem mW {w : World} {A : Option Addr} {n : Nat} {xs : List S98} (h : Kd.C k98 w A n xs) (i : Int) (h0 : 0 ≤ i) (h1 : i < n) : ∃ ad , A = some ad ∧ w.cell? (ad.add (i.toNat * 2)) = some (.int .i64 (kG xs i).f0) ∧ w.cell? ⟨(ad.add (i.toNat * 2)).block, (ad.add (i.toNat * 2)).off + 1, none⟩ = some (.int .i64 (kG xs i).f1) := by
  obtain ⟨ad, c, e, _, hK, hc0⟩ := Kd.C_get h z98 i h0 h1
  have hc : ∀ j u, c[j]? = some u → w.cell? (ad.add (i.toNat * 2 + j)) = some u := hc0
  obtain rfl := UB hK
  exact ⟨ad, e, hc 0 _ rfl, by rw [← xZ _ _ 1 (by omega)]; exact hc 1 _ rfl⟩
end Go.Proofs.YtgfkgppomaapiaaDoor.K
end

section
namespace Go.Proofs.YtgfkgppomaapiaaDoor.K
open Go.RowKit Go.Proofs.YtgfkgppomaapiaaDoorW.PrintWords
abbrev jO := S139
abbrev jJ := S86
abbrev kD := S98
structure SMap where
  f0 : Int
  f1 : List kD
structure SRec where
  f0 : Int
  f1 : Int
  f2 : Int
  f3 : List Int
  f4 : List jO
  f5 : SMap
  f6 : Int
  f7 : Int
  f8 : List jJ
def layB (x : Int) : Nat → List UInt8
  | 0 => []
  | n + 1 => UInt8.ofNat ((x / 256 ^ n) % 256).toNat :: layB x n
theorem iP (x : Int) : ∀ n, (layB x n).length = n
  | 0 => rfl
  | n + 1 => by simp [layB, iP x n]
def numB (l : List UInt8) : Nat := l.foldl (fun n c => n * 256 + c.toNat) 0
theorem OM (l : List UInt8) : ∀ k : Nat, l.foldl (fun n c => n * 256 + c.toNat) k = k * 256 ^ l.length + numB l := by
  induction l with
  | nil => intro k; simp [numB]
  | cons c l ih =>
    intro k
    unfold numB
    simp only [List.foldl_cons, List.length_cons, Nat.zero_mul, Nat.zero_add]
    rw [ih, ih c.toNat, Nat.pow_succ, Nat.add_mul, Nat.mul_assoc, Nat.mul_comm 256, Nat.add_assoc]
theorem PO (c : UInt8) (l : List UInt8) : numB (c :: l) = c.toNat * 256 ^ l.length + numB l := by
  show List.foldl _ _ (c :: l) = _
  simp only [List.foldl_cons, Nat.zero_mul, Nat.zero_add]
  rw [OM]
theorem QZ (l : List UInt8) (c : UInt8) : numB (l ++ [c]) = numB l * 256 + c.toNat := by
  unfold numB; rw [List.foldl_append]; rfl
theorem IL (l : List UInt8) : numB l < 256 ^ l.length := by
  induction l with
  | nil => simp [numB]
  | cons c l ih =>
    rw [PO, List.length_cons, Nat.pow_succ]
    have := c.toNat_lt
    have : (c.toNat + 1) * 256 ^ l.length ≤ 256 * 256 ^ l.length := Nat.mul_le_mul_right _ (by omega)
    rw [Nat.add_mul] at this
    rw [Nat.mul_comm (256 ^ l.length)]
    omega
def number (size : Nat) (b : List UInt8) : Option (Nat × List UInt8) := if b.length < size then none else some (numB (b.take size), b.drop size)
def many (size least : Nat) (b : List UInt8) : Option (Nat × List UInt8) := (number size b).bind fun x => if x.1 > x.2.length / least then none else some x
def repP {α : Type} (p : List UInt8 → Option (α × List UInt8)) : Nat → List UInt8 → Option (List α × List UInt8)
  | 0, b => some ([], b)
  | n + 1, b => (p b).bind fun x => (repP p n x.2).bind fun y => some (x.1 :: y.1, y.2)
def intP (size : Nat) (b : List UInt8) : Option (Int × List UInt8) := (number size b).bind fun x => some ((x.1 : Int), x.2)
def s64 (n : Nat) : Int := if n < 9223372036854775808 then (n : Int) else (n : Int) - 18446744073709551616
def pI (b : List UInt8) : Option (List Int × List UInt8) := (many 1 1 b).bind fun x => repP (intP 1) x.1 x.2
def vJ (b : List UInt8) : Option (jO × List UInt8) := (many 1 4 b).bind fun x => (repP (intP 4) x.1 x.2).bind fun y => (number 8 y.2).bind fun z => some (⟨y.1, s64 z.1⟩, z.2)
def oG (b : List UInt8) : Option (List jO × List UInt8) := (many 4 9 b).bind fun x => repP vJ x.1 x.2
def qH (b : List UInt8) : Option (jJ × List UInt8) := (intP 4 b).bind fun x => (oG x.2).bind fun y => some (⟨x.1, y.1⟩, y.2)
def nG (b : List UInt8) : Option (List jJ × List UInt8) := (many 4 8 b).bind fun x => repP qH x.1 x.2
def xG (b : List UInt8) : Option (kD × List UInt8) := (intP 4 b).bind fun x => (intP 1 x.2).bind fun y => some (⟨x.1, y.1⟩, y.2)
def rJ (b : List UInt8) : Option (List kD × List UInt8) := (many 1 5 b).bind fun x => repP xG x.1 x.2
def vY (k id : Int) (b : List UInt8) : Option (SRec × List UInt8) :=
  if k = 1 then (pI b).bind fun x => (oG x.2).bind fun y => some (⟨k, id, 0, x.1, y.1, ⟨0, []⟩, 0, 0, []⟩, y.2)
  else if k = 2 then (intP 4 b).bind fun x => (pI x.2).bind fun y => some (⟨k, id, x.1, y.1, [], ⟨0, []⟩, 0, 0, []⟩, y.2)
  else if k = 6 then (intP 4 b).bind fun x => (rJ x.2).bind fun y => some (⟨k, id, 0, [], [], ⟨x.1, y.1⟩, 0, 0, []⟩, y.2)
  else if k = 7 then (intP 4 b).bind fun x => (intP 4 x.2).bind fun y => (nG y.2).bind fun z => some (⟨k, id, 0, [], [], ⟨0, []⟩, x.1, y.1, z.1⟩, z.2)
  else some (⟨k, id, 0, [], [], ⟨0, []⟩, 0, 0, []⟩, b)
def recP (b : List UInt8) : Option (SRec × List UInt8) := (intP 1 b).bind fun x => (intP 4 x.2).bind fun y => vY x.1 y.1 y.2
def lY (l : List Int) : List UInt8 := layB l.length 1 ++ l.flatMap (layB · 1)
def nN (f : jO) : List UInt8 := layB f.f0.length 1 ++ f.f0.flatMap (layB · 4) ++ layB f.f1 8
def kZ (l : List jO) : List UInt8 := layB l.length 4 ++ l.flatMap nN
def lM (e : jJ) : List UInt8 := layB e.f0 4 ++ kZ e.f1
def kN (l : List jJ) : List UInt8 := layB l.length 4 ++ l.flatMap lM
def nK (s : kD) : List UInt8 := layB s.f0 4 ++ layB s.f1 1
def V3 (l : List kD) : List UInt8 := layB l.length 1 ++ l.flatMap nK
def J5 (r : SRec) : List UInt8 :=
  if r.f0 = 1 then lY r.f3 ++ kZ r.f4
  else if r.f0 = 2 then layB r.f2 4 ++ lY r.f3
  else if r.f0 = 6 then layB r.f5.f0 4 ++ V3 r.f5.f1
  else if r.f0 = 7 then layB r.f6 4 ++ (layB r.f7 4 ++ kN r.f8)
  else []
def recE (r : SRec) : List UInt8 := layB r.f0 1 ++ (layB r.f1 4 ++ J5 r)
def kY (last : Int) : List Int → Bool
  | [] => true
  | n :: l => last < n && n < 6 && kY n l
def nV (f : jO) : Bool := f.f0.length ≤ 4 && f.f0.all fun v => 0 ≤ v && v ≤ 9999
def lX (l : List jO) : Bool := l.length ≤ 200 && l.all nV
def mJ (p : Option Int) : List jJ → Bool
  | [] => true
  | e :: l => lX e.f1 && (match p with | none => true | some q => decide (q < e.f0)) && mJ (some e.f0) l
def mD (l : List jJ) : Bool := mJ none l
def lU (s : kD) : Bool := 0 ≤ s.f0 && s.f0 ≤ 9999 && 0 ≤ s.f1 && s.f1 < 6
def jM (r : SRec) : Bool :=
  if r.f0 = 1 then kY (-1) r.f3 && lX r.f4 && r.f2 == 0 && r.f5.f0 == 0 && r.f5.f1.isEmpty && r.f6 == 0 && r.f7 == 0 && r.f8.isEmpty
  else if r.f0 = 2 then kY (-1) r.f3 && r.f4.isEmpty && r.f5.f0 == 0 && r.f5.f1.isEmpty && r.f6 == 0 && r.f7 == 0 && r.f8.isEmpty
  else if r.f0 = 3 || r.f0 = 4 || r.f0 = 5 then r.f2 == 0 && r.f3.isEmpty && r.f4.isEmpty && r.f5.f0 == 0 && r.f5.f1.isEmpty && r.f6 == 0 && r.f7 == 0 && r.f8.isEmpty
  else if r.f0 = 6 then r.f1 == 0 && r.f5.f1.length ≤ 40 && r.f5.f1.all lU && r.f2 == 0 && r.f3.isEmpty && r.f4.isEmpty && r.f6 == 0 && r.f7 == 0 && r.f8.isEmpty
  else if r.f0 = 7 then mD r.f8 && r.f8.length ≤ 5000 && 0 ≤ r.f6 && r.f6 ≤ 10000 && 0 ≤ r.f7 && r.f7 ≤ 10000 && r.f2 == 0 && r.f3.isEmpty && r.f4.isEmpty && r.f5.f0 == 0 && r.f5.f1.isEmpty
  else false
def PT (f : jO) : Prop := -9223372036854775808 ≤ f.f1 ∧ f.f1 < 9223372036854775808
def QC (e : jJ) : Prop := 0 ≤ e.f0 ∧ e.f0 < 4294967296 ∧ ∀ f ∈ e.f1, PT f
structure WH (r : SRec) : Prop where
  kind : 0 ≤ r.f0 ∧ r.f0 < 256
  id : 0 ≤ r.f1 ∧ r.f1 < 4294967296
  at_ : 0 ≤ r.f2 ∧ r.f2 < 4294967296
  facts : ∀ f ∈ r.f4, PT f
  epoch : 0 ≤ r.f5.f0 ∧ r.f5.f0 < 4294967296
  entries : ∀ e ∈ r.f8, QC e
theorem yH : ∀ (l : List Int) (last : Int), kY last l = true → -1 ≤ last → (∀ n ∈ l, last < n ∧ n < 6) ∧ (l.length : Int) ≤ max 0 (5 - last)
  | [], last, _, _ => ⟨(fun _ h => by cases h), by simp; omega⟩
  | n :: l, last, h, h1 => by
    unfold kY at h
    simp only [Bool.and_eq_true, decide_eq_true_eq] at h
    obtain ⟨⟨ha, hb⟩, hc⟩ := h
    obtain ⟨i1, i2⟩ := yH l n hc (by omega)
    refine ⟨fun m hm => ?_, by simp only [List.length_cons]; omega⟩
    rcases List.mem_cons.1 hm with rfl | hm
    · exact ⟨ha, hb⟩
    · have := i1 m hm; omega
theorem xA (f : jO) : (nN f).length = 9 + 4 * f.f0.length := by
  unfold nN
  simp only [List.length_append, iP]
  have : ∀ l : List Int, (l.flatMap (layB · 4)).length = 4 * l.length := by
    intro l
    induction l with
    | nil => rfl
    | cons x l ih => rw [List.flatMap_cons, List.length_append, ih, iP, List.length_cons]; omega
  rw [this]
  omega
theorem vO : ∀ (l : List jJ) (p : Option Int), mJ p l = true → ∀ e ∈ l, lX e.f1 = true
  | [], _, _, _, h => by cases h
  | e :: l, p, h, x, hx => by
    unfold mJ at h
    simp only [Bool.and_eq_true] at h
    rcases List.mem_cons.1 hx with rfl | hx
    · exact h.1.1
    · exact vO l _ h.2 x hx
theorem LU (l : List jJ) (h : mD l = true) : ∀ e ∈ l, lX e.f1 = true := vO l none h
end Go.Proofs.YtgfkgppomaapiaaDoor.K
end

section
namespace Go.Proofs.YtgfkgppomaapiaaDoor.K
open RowKit YtgfkgppomaapiaaDoorW.PrintWords YtgfkgppomaapiaaDoorW.PrintLast YtgfkgppomaapiaaDoorW.PrintMore My
def yT : List PanicEntry := [{ v := .iface 148 (.agg #[]), recovered := false }]
def Rd (w0 w : World) (g : Nat) (l : List UInt8) : Prop := ∃ A c, w.heap[g]? = some (.cells #[.slice A l.length c] 151 (0, 0)) ∧ l.length ≤ c ∧ kb.C w0 A l.length l
theorem Rd.grown {w0 w w' : World} {g : Nat} {l : List UInt8} (h : Rd w0 w g l) {row : Option Nat} (hg : w.grownBy w' row) (hne : some g ≠ row) : Rd w0 w' g l := by
  obtain ⟨A, c, hb, hc, hC⟩ := h
  exact ⟨A, c, (hg.block g (jR hb) hne).trans hb, hc, hC⟩
theorem Rd.lt {w0 w : World} {g : Nat} {l : List UInt8} (h : Rd w0 w g l) : g < w.heap.size := by
  obtain ⟨A, c, hb, _⟩ := h
  exact jR hb
theorem OA (w : World) (row : Option Nat) : w.grownBy w row := ⟨rfl, rfl, rfl, Nat.le_refl _, fun _ _ _ => rfl⟩
theorem jE {a w w' : World} {row : Option Nat} (h : a.grownBy w row) (k : w.grownBy w' row) : a.grownBy w' row :=
  ⟨k.os.trans h.os, k.tape.trans h.tape, k.output.trans h.output, Nat.le_trans h.size k.size, fun i hi hne => (k.block i (Nat.lt_of_lt_of_le hi h.size) hne).trans (h.block i hi hne)⟩
theorem JF (w : World) (g i : Nat) (v : Value) : w.grownBy (w.setCell ⟨g, i, none⟩ v) (some g) :=
  ⟨rfl, rfl, rfl, by simp [World.setCell], fun k _ hne => Below.heap_setCell _ _ _ _ (fun e => hne (by rw [e]))⟩
theorem grown_below {w w' : World} {row : Option Nat} (h : Below w.heap.size w w') : w.grownBy w' row := ⟨h.os, h.tape, h.output, h.size, fun k hk _ => h.block k hk⟩
theorem below_grown {B : Nat} {w0 w w' : World} {g : Nat} (h : Below B w0 w) (hg : w.grownBy w' (some g)) (hB : B ≤ g) (h0 : B ≤ w0.heap.size) : Below B w0 w' :=
  ⟨hg.os.trans h.os, hg.tape.trans h.tape, hg.output.trans h.output, Nat.le_trans h.size hg.size, fun k hk => (hg.block k (by have := h.size; omega) (fun e => by injection e with e; omega)).trans (h.block k hk)⟩
theorem yQ (l : List UInt8) (k : Nat) (h : k < l.length) : numB (l.take (k + 1)) = numB (l.take k) * 256 + (l.getD k 0).toNat := by
  rw [lW 0 l k h, QZ]
theorem JM (l : List UInt8) (k : Nat) (h : k ≤ 7) : numB (l.take k) < 72057594037927936 := by
  have h1 := IL (l.take k)
  have h2 : (l.take k).length ≤ 7 := by rw [List.length_take]; omega
  have h3 : 256 ^ (l.take k).length ≤ 256 ^ 7 := Nat.pow_le_pow_right (by decide) h2
  have h4 : 256 ^ 7 = 72057594037927936 := by decide
  omega
theorem VX (n : Nat) (c : UInt8) (h : n < 72057594037927936) : bits .or .u64 ((n : Int) * 256) (c.toNat : Int) = ((n * 256 + c.toNat : Nat) : Int) := by
  have hc := c.toNat_lt
  rw [show ((n : Int) * 256) = ((n * 256 : Nat) : Int) by omega, u64_or_nat _ _ (by omega) (by omega)]
  congr 1
  have := Nat.shiftLeft_add_eq_or_of_lt (i := 8) (show c.toNat < 2 ^ 8 by omega) n
  rw [Nat.shiftLeft_eq] at this
  exact this.symm
set_option maxHeartbeats 2000000 in
theorem mM (s : Nat) (S : Int) (hS : S = s) (hs8 : s ≤ 8) (g : Nat) (l : List UInt8) (w0 w : World) (h : Rd w0 w g l) (hb : Below w0.heap.size w0 w) (hl : s ≤ l.length) :
    Calls Tryd.prog 119 #[.pointer (some ⟨g, 0, none⟩), .int .i64 S] w fun e w' => e = .returned (.int .u64 (numB (l.take s) : Int)) ∧ Rd w0 w' g (l.drop s) ∧ w.grownBy w' (some g) := by
  subst hS
  obtain ⟨A, c, hblk, hc, hC⟩ := h
  have HBL := iC.mk hblk
  have HB := iC.mk hb
  have hm := lC hC
  have HC := iC.mk hC
  have z0 : w.cell? ⟨g, 0, none⟩ = some (.slice A l.length c) := (iE hblk 0).trans rfl
  have f0 : w.frozen? ⟨g, 0, none⟩ = false := iD hblk 0
  have hcut := XR A l.length c s (s : Int) rfl hl hc
  obtain ⟨A2, hcut2, hC2⟩ := XE hC hc s (s : Int) rfl hl
  have HC2 := iC.mk hC2
  have hnot : ¬ (l.length : Int) < (s : Int) := by omega
  clear hblk hb hC hC2
  go_enter Tryd.func119, Tryd.ntmps119
  go_wp2
  go_loop [5, 24] (fun n i => ∃ k : Nat, k ≤ s ∧ i = .int .i64 k ∧ n = .int .u64 (numB (l.take k) : Int)) (fun _ i => s - (intOf i).toNat)
  case atStart => exact ⟨0, Nat.zero_le _, rfl, rfl⟩
  case round =>
    obtain ⟨k, hk, rfl, rfl⟩ := hrel
    by_cases hlt : k < s
    · obtain ⟨ad, rfl, hx⟩ := C_at (Kd.C_below HC.out HB.out) k (by omega)
      have hsn := iC.mk (yQ l k (by omega))
      have hn := JM l k (by omega)
      generalize l.getD k 0 = cb at hx hsn
      have HOR := iC.mk (VX (numB (l.take k)) cb hn)
      obtain ⟨n, hnn⟩ : ∃ n, n = numB (l.take k) := ⟨_, rfl⟩
      rw [← hnn] at hn HOR hsn ⊢
      clear hnn
      have hnI : (n : Int) < 72057594037927936 := by omega
      clear hn
      have hcb := cb.toNat_lt
      go_wp2
      go_round
      case rel => exact ⟨k + 1, by omega, by go_num, by rw [hsn.out, ← HOR.out]⟩
      case measure => simp [intOf]; omega
    · obtain rfl : k = s := by omega
      go_wp2
      go_ret
      refine ⟨rfl, ⟨A2, c - k, ?_, by rw [List.length_drop]; omega, ?_⟩, JF _ _ _ _⟩
      · rw [List.length_drop]
        exact (Lib.heap_setCell_same HBL.out _).trans rfl
      · rw [List.length_drop]
        exact HC2.out
set_option maxHeartbeats 1000000 in
theorem kE (s : Nat) (S : Int) (hS : S = s) (g : Nat) (l : List UInt8) (w0 w : World) (h : Rd w0 w g l) (hl : l.length < s) :
    Calls Tryd.prog 119 #[.pointer (some ⟨g, 0, none⟩), .int .i64 S] w fun e w' => e = .panicked yT ∧ w.grownBy w' (some g) := by
  subst hS
  obtain ⟨A, c, hblk, hc, hC⟩ := h
  have hm := lC hC
  have z0 : w.cell? ⟨g, 0, none⟩ = some (.slice A l.length c) := (iE hblk 0).trans rfl
  have f0 : w.frozen? ⟨g, 0, none⟩ = false := iD hblk 0
  have hyes : (l.length : Int) < (s : Int) := by omega
  clear hblk hC
  go_enter Tryd.func119, Tryd.ntmps119
  go_wp2
  exact ⟨rfl, rfl, OA _ _⟩
theorem mZ {s : Nat} {l l' : List UInt8} {n : Nat} (h : number s l = some (n, l')) : s ≤ l.length ∧ n = numB (l.take s) ∧ l' = l.drop s := by
  unfold number at h
  split at h
  · cases h
  · injection h with h
    injection h with h1 h2
    exact ⟨by omega, h1.symm, h2.symm⟩
theorem rP {s : Nat} {l : List UInt8} (h : number s l = none) : l.length < s := by
  unfold number at h
  split at h
  · assumption
  · cases h
theorem MZ (a b : Nat) (h : a ≤ 9223372036854775807) : wrap64 ((a : Int) / (b : Int)) = (a : Int) / (b : Int) ∧ IntKind.u64.wrap ((a : Int) / (b : Int)) = (a : Int) / (b : Int) := by
  rw [← Int.natCast_ediv]
  have h1 : a / b ≤ a := Nat.div_le_self _ _
  generalize a / b = q at h1 ⊢
  constructor
  · unfold wrap64; omega
  · rw [IntKind.wrap_u64]; omega
set_option maxHeartbeats 2000000 in
theorem xQ (s least : Nat) (S T : Int) (hS : S = s) (hT : T = least) (hs8 : s ≤ 8) (h1 : 1 ≤ least) (g : Nat) (l l' : List UInt8) (n : Nat) (w0 w : World) (h : Rd w0 w g l) (hb : Below w0.heap.size w0 w) (hg : w0.heap.size ≤ g) (hl : many s least l = some (n, l')) :
    Calls Tryd.prog 130 #[.pointer (some ⟨g, 0, none⟩), .int .i64 S, .int .i64 T] w fun e w' => e = .returned (.int .i64 (n : Int)) ∧ Rd w0 w' g l' ∧ w.grownBy w' (some g) ∧ n * least ≤ l'.length := by
  subst hT
  unfold many at hl
  obtain ⟨⟨m, r⟩, hn, hl⟩ := Option.bind_eq_some_iff.1 hl
  simp only at hl
  split at hl
  · cases hl
  injection hl with hl
  injection hl with e1 e2
  subst e1; subst e2
  rename_i hle
  obtain ⟨hsl, hm, hr⟩ := mZ hn
  have hle' : m * least ≤ r.length := by
    have : m ≤ r.length / least := by omega
    exact (Nat.le_div_iff_mul_le (by omega)).1 this
  have hmd : ¬ ((r.length : Int) / (least : Int)) < (m : Int) := by
    rw [← Int.natCast_ediv]
    omega
  have hcall := mM s S hS hs8 g l w0 w h hb hsl
  rw [← hm, ← hr] at hcall
  have HLE := iC.mk hle'
  clear hn hm hr hle hle' h hb hsl hS
  have hl1 : (1 : Int) ≤ (least : Int) := by omega
  go_enter Tryd.func130, Tryd.ntmps130
  go_wp2_with (go_at_call 119; refine hcall.mono ?_; rintro e w1 ⟨rfl, hR, hG⟩; obtain ⟨A1, c1, hblk, hc1, hC1⟩ := hR; have HBL := iC.mk hblk; have HC1 := iC.mk hC1; have hm1 := lC hC1; have z0 : w1.cell? ⟨g, 0, none⟩ = some (.slice A1 r.length c1) := (iE hblk 0).trans rfl; clear hblk hC1; obtain ⟨hq1, hq2⟩ := MZ r.length least hm1; have hmr : (m : Int) ≤ 9223372036854775807 := by (have := HLE.out; have := Nat.le_mul_of_pos_right m (show 0 < least by omega); omega))
  go_ret
  exact ⟨rfl, ⟨A1, c1, HBL.out, hc1, HC1.out⟩, hG, HLE.out⟩
set_option maxHeartbeats 2000000 in
theorem oZ (s least : Nat) (S T : Int) (hS : S = s) (hT : T = least) (hs8 : s ≤ 8) (h1 : 1 ≤ least) (g : Nat) (l : List UInt8) (w0 w : World) (h : Rd w0 w g l) (hb : Below w0.heap.size w0 w) (hg : w0.heap.size ≤ g) (hl : many s least l = none) :
    Calls Tryd.prog 130 #[.pointer (some ⟨g, 0, none⟩), .int .i64 S, .int .i64 T] w fun e w' => e = .panicked yT ∧ w.grownBy w' (some g) := by
  subst hT
  unfold many at hl
  cases hn : number s l with
  | none =>
    have hcall := kE s S hS g l w0 w h (rP hn)
    clear hn hl h hb hS
    go_enter Tryd.func130, Tryd.ntmps130
    go_wp2_with (go_at_call 119; refine hcall.mono ?_; rintro e w1 ⟨rfl, hG⟩)
    exact ⟨rfl, rfl, hG⟩
  | some x =>
    obtain ⟨m, r⟩ := x
    rw [hn] at hl
    simp only [Option.bind_some] at hl
    split at hl
    · rename_i hgt
      obtain ⟨hsl, hm, hr⟩ := mZ hn
      have hmd : ((r.length : Int) / (least : Int)) < (m : Int) := by
        rw [← Int.natCast_ediv]
        omega
      have hcall := mM s S hS hs8 g l w0 w h hb hsl
      rw [← hm, ← hr] at hcall
      clear hn hm hr hgt h hb hsl hS hl
      have hl1 : (1 : Int) ≤ (least : Int) := by omega
      go_enter Tryd.func130, Tryd.ntmps130
      go_wp2_with (go_at_call 119; refine hcall.mono ?_; rintro e w1 ⟨rfl, hR, hG⟩; obtain ⟨A1, c1, hblk, hc1, hC1⟩ := hR; have hm1 := lC hC1; have z0 : w1.cell? ⟨g, 0, none⟩ = some (.slice A1 r.length c1) := (iE hblk 0).trans rfl; clear hblk hC1; obtain ⟨hq1, hq2⟩ := MZ r.length least hm1)
      exact ⟨rfl, rfl, hG⟩
    · cases hl
end Go.Proofs.YtgfkgppomaapiaaDoor.K
end

section
namespace Go.Proofs.YtgfkgppomaapiaaDoor.K
open RowKit YtgfkgppomaapiaaDoorW.PrintWords YtgfkgppomaapiaaDoorW.PrintLast YtgfkgppomaapiaaDoorW.PrintMore My
def PP {α : Type} (res : Option (α × List UInt8)) (val : α → Value → World → Prop) (w0 w : World) (g : Nat) (e : Ending) (w' : World) : Prop :=
  w.grownBy w' (some g) ∧ ((∃ x l' v, res = some (x, l') ∧ e = .returned v ∧ val x v w' ∧ Rd w0 w' g l') ∨ (res = none ∧ e = .panicked yT))
theorem PP.ok {α : Type} {res : Option (α × List UInt8)} {val : α → Value → World → Prop} {w0 w w' : World} {g : Nat} {e : Ending} {x : α} {l : List UInt8} (h : PP res val w0 w g e w') (hr : res = some (x, l)) : ∃ v, e = .returned v ∧ val x v w' ∧ Rd w0 w' g l ∧ w.grownBy w' (some g) := by
  obtain ⟨hg, ⟨x', l', v, h1, h2, h3, h4⟩ | ⟨h1, _⟩⟩ := h
  · rw [hr] at h1
    injection h1 with h1
    injection h1 with h1 h5
    subst h1; subst h5
    exact ⟨v, h2, h3, h4, hg⟩
  · rw [hr] at h1; cases h1
theorem PP.short {α : Type} {res : Option (α × List UInt8)} {val : α → Value → World → Prop} {w0 w w' : World} {g : Nat} {e : Ending} (h : PP res val w0 w g e w') (hr : res = none) : e = .panicked yT ∧ w.grownBy w' (some g) := by
  obtain ⟨hg, ⟨x', l', v, h1, _⟩ | ⟨_, h2⟩⟩ := h
  · rw [hr] at h1; cases h1
  · exact ⟨h2, hg⟩
def RI (w : World) (base : Nat) (v : Value) (xs : List Int) : Prop := Kd.R (Kd.int .i64) 3 w base (fun _ => True) v xs
theorem kU {α : Type} {d : Kd α} {e : Nat} {w w1 : World} {base : Nat} {ok : Nat → Prop} {v : Value} {xs : List α} {g : Nat} (h : d.R e w base ok v xs) (hg : w.grownBy w1 (some g)) (hlt : g < base) : d.R e w1 base ok v xs :=
  Kd.R_mono (Kd.R_grown (Kd.R_bound h) hg (fun k hk e => by have := hk.2.1; injection e with e; omega)) (fun _ hk => hk.1)
theorem QD {α : Type} {d : Kd α} {e : Nat} {w : World} {base : Nat} {ok : Nat → Prop} {ad : Addr} {n cap : Nat} {xs : List α} (h : d.R e w base ok (.slice (some ad) n cap) xs) : ∃ g, ad = ⟨g, 0, none⟩ := Kd.R_head h
theorem VW {w : World} {base : Nat} {ad : Addr} {n c : Nat} {xs : List Int} (h : RI w base (.slice (some ad) n c) xs) (k : Nat) (hk : k < n) (x : Int) :
    (∃ old, w.cell? (ad.add k) = some old) ∧ w.frozen? (ad.add k) = false ∧ base ≤ ad.block ∧
    RI (w.setCell (ad.add k) (.int .i64 x)) base (.slice (some ad) n c) (xs.set k x) ∧ w.grownBy (w.setCell (ad.add k) (.int .i64 x)) (some ad.block) := by
  obtain ⟨g, rfl⟩ := QD h
  have ho := Kd.own_of_R (enc := Value.int .i64) (h1 := fun _ => rfl) h
  obtain ⟨hlen, _, hC⟩ := Kd.R_reads' h
  obtain ⟨A1, e1, hx⟩ := Kd.at_int hC (k : Int) (by omega) (by omega)
  injection e1 with e1
  subst e1
  rw [Int.toNat_natCast] at hx
  obtain ⟨cells, hc⟩ := qK ho g (by simp [Value.ownBlock])
  rw [← hlen] at ho
  obtain ⟨h2, h3⟩ := JJ ho (k : Int) x
  rw [Int.toNat_natCast] at h2 h3
  have ha : (⟨g, 0, none⟩ : Addr).add k = ⟨g, k, none⟩ := by rw [add_plain]
  rw [ha] at hx ⊢
  refine ⟨⟨_, hx⟩, iD hc k, ?_, Kd.R_of_own ?_ (fun _ _ => trivial), h3⟩
  · exact Kd.R_base h g (by simp [Value.ownBlock])
  · rw [List.length_set, ← hlen]
    exact h2
theorem V8 {W : World} {n base : Nat} (hn : n ≤ 9223372036854775807) (hb : base ≤ W.heap.size) : RI (W.alloc (.cells (madeCells #[.int .i64 0] n) 3)) base (.slice (some ⟨W.heap.size, 0, none⟩) n n) (List.replicate n 0) := by
  refine Kd.R_of_own ?_ (fun _ _ => trivial)
  have h := World.ownsRow_lit (base := base) (e := 3) (size := 1) W (madeCells #[.int .i64 0] n) n hb (by unfold maxLen; omega) (by simp [madeCells])
  rw [List.length_replicate]
  have e : (madeCells #[.int .i64 0] n).toList = encs (Value.int .i64) (List.replicate n 0) := by
    apply List.ext_getElem
    · simp [madeCells, encs]
    · intro i h1 h2
      simp [madeCells, Nat.mod_one, encs]
  rw [← e]
  exact h
theorem lL {w w1 w2 : World} {g b : Nat} (h : w.grownBy w1 (some g)) (k : w1.grownBy w2 (some b)) (hb : w.heap.size ≤ b) : w.grownBy w2 (some g) :=
  ⟨k.os.trans h.os, k.tape.trans h.tape, k.output.trans h.output, Nat.le_trans h.size k.size, fun i hi hne => (k.block i (Nat.lt_of_lt_of_le hi h.size) (fun e => by injection e with e; omega)).trans (h.block i hi hne)⟩
theorem xB {α : Type} (p : List UInt8 → Option (α × List UInt8)) (n : Nat) (b : List UInt8) : repP p (n + 1) b = (p b).bind fun x => (repP p n x.2).bind fun y => some (x.1 :: y.1, y.2) := rfl
def Left {α : Type} (p : List UInt8 → Option (α × List UInt8)) (n k : Nat) (l r : List UInt8) (done : List α) : Prop :=
  done.length = k ∧ repP p n l = (repP p (n - k) r).bind fun y => some (done ++ y.1, y.2)
theorem Left.start {α : Type} (p : List UInt8 → Option (α × List UInt8)) (n : Nat) (l : List UInt8) : Left p n 0 l l [] := by
  refine ⟨rfl, ?_⟩
  rw [Nat.sub_zero]
  cases repP p n l <;> rfl
theorem Left.next {α : Type} {p : List UInt8 → Option (α × List UInt8)} {n k : Nat} {l r r' : List UInt8} {done : List α} {x : α} (h : Left p n k l r done) (hk : k < n) (hp : p r = some (x, r')) : Left p n (k + 1) l r' (done ++ [x]) := by
  refine ⟨by rw [List.length_append, h.1]; rfl, ?_⟩
  rw [h.2, show n - k = (n - (k + 1)) + 1 by omega, xB, hp]
  simp only [Option.bind_some]
  cases repP p (n - (k + 1)) r' with
  | none => rfl
  | some y => simp
theorem Left.fail {α : Type} {p : List UInt8 → Option (α × List UInt8)} {n k : Nat} {l r : List UInt8} {done : List α} (h : Left p n k l r done) (hk : k < n) (hp : p r = none) : repP p n l = none := by
  rw [h.2, show n - k = (n - (k + 1)) + 1 by omega, xB, hp]
  rfl
theorem Left.done {α : Type} {p : List UInt8 → Option (α × List UInt8)} {n : Nat} {l r : List UInt8} {done : List α} (h : Left p n n l r done) : repP p n l = some (done, r) := by
  rw [h.2, Nat.sub_self]
  simp [repP]
theorem JY {α : Type} (z x : α) (done : List α) (n k : Nat) (hd : done.length = k) (hk : k < n) : (done ++ List.replicate (n - k) z).set k x = (done ++ [x]) ++ List.replicate (n - (k + 1)) z := by
  rw [List.set_append_right _ _ (by omega), hd, Nat.sub_self, show n - k = (n - (k + 1)) + 1 by omega, List.replicate_succ, List.set_cons_zero, List.append_assoc]
  rfl
theorem nD {s least n : Nat} {l r : List UInt8} (h : many s least l = some (n, r)) (h1 : 1 ≤ least) : r.length + s = l.length ∧ n * least ≤ r.length := by
  unfold many at h
  obtain ⟨⟨m, r'⟩, hn, hl⟩ := Option.bind_eq_some_iff.1 h
  simp only at hl
  split at hl
  · cases hl
  injection hl with hl
  injection hl with e1 e2
  subst e1; subst e2
  rename_i hle
  obtain ⟨h3, _, rfl⟩ := mZ hn
  refine ⟨by rw [List.length_drop]; omega, (Nat.le_div_iff_mul_le (by omega)).1 (by omega)⟩
theorem QY (n : Nat) (h : n < 9223372036854775808) : wrap64 (n : Int) = (n : Int) := by unfold wrap64; omega
theorem uC {t e : TypeId} {z : Value} {size bytes : Nat} (ht : Tryd.prog.underlying t = some (.slice e)) (hinfo : (Tryd.prog.info? e).map (fun i => (i.zero, i.size, i.bytes)) = some (some z, size, bytes)) (hb : bytes ≤ 100000) (n : Nat) (hn : (n : Int) ≤ 100000) (W : World) :
    (Instr.makeSlice t (.int .i64 (n : Int)) (.int .i64 (n : Int))).run Tryd.prog W = .ok (.slice (some ⟨W.heap.size, 0, none⟩) n n) (W.alloc (.cells (madeCells z.cells (n * size)) e)) := by
  obtain ⟨i, hi, he⟩ := Option.map_eq_some_iff.1 hinfo
  simp only [Prod.mk.injEq] at he
  obtain ⟨h1, h2, h3⟩ := he
  have hbn : (i.bytes : Int) * (n : Int) ≤ 281474976710656 := by
    have h4 : (i.bytes : Int) ≤ 100000 := by omega
    have h5 : (i.bytes : Int) * (n : Int) ≤ 100000 * 100000 := Int.mul_le_mul h4 hn (by omega) (by omega)
    omega
  have := run_make W t e i z ht hi h1 .i64 .i64 (n : Int) (n : Int) (by omega) (by omega) hbn (by omega)
  rw [h2, Int.toNat_natCast] at this
  exact this
theorem nX {s : Nat} {l r : List UInt8} {x : Int} (h : intP s l = some (x, r)) : s ≤ l.length ∧ x = (numB (l.take s) : Int) ∧ r = l.drop s := by
  unfold intP at h
  obtain ⟨⟨m, r'⟩, hn, hl⟩ := Option.bind_eq_some_iff.1 h
  injection hl with hl
  injection hl with e1 e2
  subst e1; subst e2
  obtain ⟨h1, rfl, rfl⟩ := mZ hn
  exact ⟨h1, rfl, rfl⟩
theorem lN {s : Nat} {l : List UInt8} (h : intP s l = none) : l.length < s := by
  unfold intP at h
  cases hn : number s l with
  | none => exact rP hn
  | some x => rw [hn] at h; cases h
theorem qE (l : List UInt8) (s : Nat) (hs : s ≤ 4) : (numB (l.take s) : Int) < 4294967296 := by
  have h1 := IL (l.take s)
  have h2 : (l.take s).length ≤ 4 := by rw [List.length_take]; omega
  have h3 : 256 ^ (l.take s).length ≤ 256 ^ 4 := Nat.pow_le_pow_right (by decide) h2
  have h4 : 256 ^ 4 = 4294967296 := by decide
  omega
set_option maxRecDepth 20000 in
set_option maxHeartbeats 2000000 in
theorem rF (g : Nat) (l : List UInt8) (w0 w : World) (h : Rd w0 w g l) (hb : Below w0.heap.size w0 w) (hg : w0.heap.size ≤ g) (hm : (l.length : Int) ≤ 100000) :
    Calls Tryd.prog 120 #[.pointer (some ⟨g, 0, none⟩)] w (PP (pI l) (fun xs v w' => RI w' w.heap.size v xs) w0 w g) := by
  have HR := iC.mk h
  have HB := iC.mk hb
  have hlt := h.lt
  clear h hb
  cases hmy : many 1 1 l with
  | none =>
    have hn : pI l = none := by unfold pI; rw [hmy]; rfl
    have hcall := oZ 1 1 1 1 rfl rfl (by omega) (by omega) g l w0 w HR.out HB.out hg hmy
    have HN := iC.mk hn
    clear hmy hn
    go_enter Tryd.func120, Tryd.ntmps120
    go_wp2_with (go_at_call 130; refine hcall.mono ?_; rintro e w1 ⟨rfl, hG⟩)
    exact ⟨rfl, hG, .inr ⟨HN.out, rfl⟩⟩
  | some x =>
    obtain ⟨n, r0⟩ := x
    have hn : pI l = repP (intP 1) n r0 := by unfold pI; rw [hmy]; rfl
    have hcall := xQ 1 1 1 1 rfl rfl (by omega) (by omega) g l r0 n w0 w HR.out HB.out hg hmy
    have HN := iC.mk hn
    obtain ⟨hl1, hl2⟩ := nD hmy (by omega)
    have hn1 : (n : Int) ≤ 100000 := by omega
    have hr1 : (r0.length : Int) ≤ 100000 := by omega
    have hmk := uC (t := 23) (e := 3) Tryd.underlying23 info3 (by omega) n hn1
    clear hmy hn hl1 hl2
    go_enter Tryd.func120, Tryd.ntmps120
    go_wp2_with (go_at_call 130; refine hcall.mono ?_; rintro e w1 ⟨rfl, hR, hG, hle⟩; clear hle; have HR1 := iC.mk hR; have HG1 := iC.mk hG; clear hR hG)
    have HO := iC.mk (V8 (W := w1) (n := n) (base := w.heap.size) (by omega) HG1.out.size)
    have HG := iC.mk (jE HG1.out (grown_below (iF (Below.refl _ _) (.cells (madeCells #[.int .i64 0] n) 3))))
    have HR2 := iC.mk (Rd.grown HR1.out (grown_below (row := none) (iF (Below.refl _ _) (.cells (madeCells #[.int .i64 0] n) 3))) (by simp))
    clear HR1 HG1 hcall hmk
    obtain ⟨ad, had⟩ : ∃ ad : Addr, ad = ⟨w1.heap.size, 0, none⟩ := ⟨_, rfl⟩
    rw [← had] at HO ⊢
    obtain ⟨W2, hW⟩ : ∃ W2, W2 = w1.alloc (.cells (madeCells #[.int .i64 0] n) 3) := ⟨_, rfl⟩
    rw [← hW] at HO HG HR2 ⊢
    clear hW had
    go_loopw [10] (fun i wr => ∃ (k : Nat) (done : List Int) (r : List UInt8), k ≤ n ∧ i = .int .i64 k ∧ iC (Left (intP 1) n k r0 r done) ∧ iC (Rd w0 wr g r) ∧ iC (RI wr w.heap.size (.slice (some ad) n n) (done ++ List.replicate (n - k) 0)) ∧ iC (w.grownBy wr (some g))) (fun i _ => n - (intOf i).toNat)
    case atStart => exact ⟨0, [], r0, Nat.zero_le _, rfl, ⟨Left.start _ _ _⟩, HR2, HO, HG⟩
    case round =>
      obtain ⟨k, done, r, hk, rfl, HL, HRd, HOk, HGk⟩ := hrel
      clear HR2 HO HG
      by_cases hkn : k < n
      · cases hp : intP 1 r with
        | none =>
          have hcall := kE 1 1 rfl g r w0 wr HRd.out (lN hp)
          have HF := iC.mk (Left.fail HL.out hkn hp)
          clear hp
          go_wp2_with (go_at_call 119; refine hcall.mono ?_; rintro e w2 ⟨rfl, hG⟩)
          exact ⟨rfl, jE HGk.out hG, .inr ⟨by rw [HN.out]; exact HF.out, rfl⟩⟩
        | some x =>
          obtain ⟨x, r'⟩ := x
          obtain ⟨hs1, hx, hr'⟩ := nX hp
          have HN1 := iC.mk (Left.next HL.out hkn hp)
          have hcall := mM 1 1 rfl (by omega) g r w0 wr HRd.out (below_grown HB.out HGk.out hg (Nat.le_refl _)) hs1
          have hsm := qE r 1 (by omega)
          rw [← hr'] at hcall
          obtain ⟨m, hm1⟩ : ∃ m, m = numB (r.take 1) := ⟨_, rfl⟩
          rw [← hm1] at hcall hsm hx
          subst hx
          clear hp hr' hm1 hs1
          go_wp2_with (go_at_call 119; refine hcall.mono ?_; rintro e w2 ⟨rfl, hR, hG⟩; obtain ⟨⟨old, ho⟩, hf, hbs, hset, hgr⟩ := VW (kU HOk.out hG hlt) k hkn (m : Int); have HS := iC.mk hset; have HGR := iC.mk (lL (jE HGk.out hG) hgr hbs); have HRR := iC.mk (Rd.grown hR hgr (by (intro e; injection e with e; omega))); clear hset hgr hbs hR hG)
          go_roundw
          case rel => exact ⟨k + 1, done ++ [(m : Int)], r', by omega, by go_num, HN1, HRR, ⟨by rw [← JY _ _ _ _ _ HL.out.1 hkn]; exact HS.out⟩, HGR⟩
          case measure => simp [intOf]; omega
      · obtain rfl : k = n := by omega
        go_wp2
        go_ret
        have hd := HOk.out
        rw [Nat.sub_self, List.replicate_zero, List.append_nil] at hd
        exact ⟨HGk.out, .inl ⟨done, r, _, by rw [HN.out]; exact Left.done HL.out, rfl, hd, HRd.out⟩⟩
def RW (e : Nat) (w : World) (base : Nat) (v : Value) (rows : List (List Value)) : Prop := (Kd.raw 2).R e w base (fun _ => True) v rows
theorem IP {e : Nat} {w : World} {base : Nat} {ad : Addr} {n c : Nat} {rows : List (List Value)} (h : RW e w base (.slice (some ad) n c) rows) (k : Nat) (hk : k < n) :
    ∃ x y, rows.getD k [] = [x, y] ∧ w.cell? (ad.add (k * 2)) = some x ∧ w.cell? ⟨(ad.add (k * 2)).block, (ad.add (k * 2)).off + 1, none⟩ = some y ∧ w.frozen? (ad.add (k * 2)) = false ∧ w.frozen? ⟨(ad.add (k * 2)).block, (ad.add (k * 2)).off + 1, none⟩ = false ∧ base ≤ ad.block ∧ ad.block < w.heap.size ∧
    (∀ u : Value, u.oneCell' = true → RW e (w.setCell (ad.add (k * 2)) u) base (.slice (some ad) n c) (rows.set k [u, y]) ∧ w.grownBy (w.setCell (ad.add (k * 2)) u) (some ad.block)) ∧
    (∀ u : Value, u.oneCell' = true → RW e (w.setCell ⟨(ad.add (k * 2)).block, (ad.add (k * 2)).off + 1, none⟩ u) base (.slice (some ad) n c) (rows.set k [x, u]) ∧ w.grownBy (w.setCell ⟨(ad.add (k * 2)).block, (ad.add (k * 2)).off + 1, none⟩ u) (some ad.block)) := by
  obtain ⟨g, rfl⟩ := QD h
  have hb := Kd.R_base h g (by simp [Value.ownBlock])
  have hlt := Kd.R_lt h g (by simp [Value.ownBlock])
  obtain ⟨cc, hcl, hM, hcc, hf⟩ := Kd.R_elem h [] (k : Int) (by omega) (by omega)
  rw [Int.toNat_natCast] at hM hcc hf
  have hM' : cc = rows.getD k [] ∧ cc.length = 2 ∧ ∀ u ∈ cc, u.oneCell' = true := hM
  obtain ⟨hc1, hc2, hc3⟩ := hM'
  obtain ⟨x, y, rfl⟩ : ∃ x y, cc = [x, y] := by
    match cc, hc2 with
    | [x, y], _ => exact ⟨x, y, rfl⟩
  have ha : (⟨g, 0, none⟩ : Addr).add (k * 2) = ⟨g, k * 2, none⟩ := by rw [add_plain]
  rw [ha]
  have z0 : w.cell? ⟨g, k * 2, none⟩ = some x := hcc 0 x rfl
  have z1 : w.cell? ⟨g, k * 2 + 1, none⟩ = some y := hcc 1 y rfl
  have f0 : w.frozen? ⟨g, k * 2, none⟩ = false := hf 0
  have f1 : w.frozen? ⟨g, k * 2 + 1, none⟩ = false := hf 1
  have ox := hc3 x (by simp)
  have oy := hc3 y (by simp)
  have hcc' : ∀ j u, [x, y][j]? = some u → w.cell? ⟨g, (k : Int).toNat * (Kd.raw 2).sz + j, none⟩ = some u := by rw [Int.toNat_natCast]; exact hcc
  refine ⟨x, y, hc1.symm, z0, z1, f0, f1, hb, hlt, fun u hu => ?_, fun u hu => ?_⟩
  · have := Kd.R_seg (d := Kd.raw 2) (okp := fun _ => False) (c := [x, y]) (seg := [u]) (j := 0) (x' := [u, y]) h (k : Int) (by omega) (by omega) rfl hcc' (show _ ≤ 2 by simp) ⟨rfl, rfl, by
      intro z hz
      rcases List.mem_cons.1 hz with rfl | hz
      · exact hu
      · rcases List.mem_cons.1 hz with rfl | hz
        · exact oy
        · cases hz⟩ (fun _ hk => hk.elim)
    rw [Int.toNat_natCast] at this
    exact this
  · have := Kd.R_seg (d := Kd.raw 2) (okp := fun _ => False) (c := [x, y]) (seg := [u]) (j := 1) (x' := [x, u]) h (k : Int) (by omega) (by omega) rfl hcc' (show _ ≤ 2 by simp) ⟨rfl, rfl, by
      intro z hz
      rcases List.mem_cons.1 hz with rfl | hz
      · exact ox
      · rcases List.mem_cons.1 hz with rfl | hz
        · exact hu
        · cases hz⟩ (fun _ hk => hk.elim)
    rw [Int.toNat_natCast] at this
    exact this
theorem QE {e : Nat} {W : World} {n base : Nat} {x y : Value} (ox : x.oneCell' = true) (oy : y.oneCell' = true) (hn : n ≤ 9223372036854775807) (hb : base ≤ W.heap.size) : RW e (W.alloc (.cells (madeCells #[x, y] (n * 2)) e)) base (.slice (some ⟨W.heap.size, 0, none⟩) n n) (List.replicate n [x, y]) := by
  refine ⟨fun _ _ => trivial, (madeCells #[x, y] (n * 2)).toList, ?_, ?_, ?_⟩
  · rw [List.length_replicate]
    exact World.ownsRow_lit W (madeCells #[x, y] (n * 2)) n hb (by unfold maxLen; omega) (by simp [madeCells, Kd.raw])
  · simp [madeCells, Kd.raw]
  · intro j p hj
    obtain ⟨hjl, hjp⟩ := List.getElem?_eq_some_iff.1 hj
    rw [List.length_replicate] at hjl
    rw [List.getElem_replicate] at hjp
    subst hjp
    have hcell : (((madeCells #[x, y] (n * 2)).toList.drop (j * (Kd.raw 2).sz)).take (Kd.raw 2).sz) = [x, y] := by
      apply List.ext_getElem
      · simp [madeCells, Kd.raw]; omega
      · intro i h1 h2
        have hi : i < 2 := by simpa using h2
        rw [List.getElem_take, List.getElem_drop]
        have hi' : i = 0 ∨ i = 1 := by omega
        rcases hi' with rfl | rfl <;> simp [madeCells, Kd.raw, Nat.add_mod]
    rw [hcell]
    refine ⟨rfl, rfl, fun u hu => ?_⟩
    rcases List.mem_cons.1 hu with rfl | hu
    · exact ox
    · rcases List.mem_cons.1 hu with rfl | hu
      · exact oy
      · cases hu
theorem IG {α : Type} {d : Kd α} (hd : d.sz = 2) {e : Nat} {w : World} {base : Nat} {v : Value} {rows : List (List Value)} {xs : List α} {ok : Nat → Prop} (h : RW e w base v rows) (hl : xs.length = rows.length) (hok : ∀ k, v.ownBlock = some k → ok k) (hM : ∀ (j : Nat) (p : α) (c : List Value), xs[j]? = some p → rows[j]? = some c → d.M w base (fun k => ok k ∧ some k ≠ v.ownBlock) p c) : d.R e w base ok v xs := by
  obtain ⟨_, inner, ho, hr⟩ := h
  refine ⟨hok, inner, ?_, ?_, ?_⟩
  · rw [hl, hd]; exact ho
  · rw [hl, hd]; exact hr.1
  · intro j p hj
    have hjl : j < rows.length := by rw [← hl]; exact (List.getElem?_eq_some_iff.1 hj).1
    have hc := hr.2 j rows[j] (List.getElem?_eq_getElem hjl)
    rw [hd]
    have e : ((inner.drop (j * (Kd.raw 2).sz)).take (Kd.raw 2).sz) = rows[j] := hc.1
    show d.M w base _ p ((inner.drop (j * 2)).take 2)
    rw [show ((inner.drop (j * 2)).take 2) = rows[j] from e]
    exact hM j p _ hj (List.getElem?_eq_getElem hjl)
end Go.Proofs.YtgfkgppomaapiaaDoor.K
end

section
namespace Go.Proofs.YtgfkgppomaapiaaDoor.K
open RowKit YtgfkgppomaapiaaDoorW.PrintWords YtgfkgppomaapiaaDoorW.PrintLast YtgfkgppomaapiaaDoorW.PrintMore My
def encS (s : kD) : List Value := [.int .i64 s.f0, .int .i64 s.f1]
theorem JX {α β : Type} (f : α → β) (z u : β) (done : List α) (n k : Nat) (x : α) (hu : u = f x) (hd : done.length = k) (hk : k < n) : (done.map f ++ List.replicate (n - k) z).set k u = (done ++ [x]).map f ++ List.replicate (n - (k + 1)) z := by
  subst hu
  rw [JY z (f x) (done.map f) n k (by rw [List.length_map]; exact hd) hk, List.map_append]
  rfl
theorem LQ {r : List UInt8} (h : intP 4 r = none) : xG r = none := by unfold xG; rw [h]; rfl
theorem MF {r r1 : List UInt8} {x : Int} (h : intP 4 r = some (x, r1)) (h1 : intP 1 r1 = none) : xG r = none := by unfold xG; rw [h]; simp only [Option.bind_some]; rw [h1]; rfl
theorem OJ {r r1 r2 : List UInt8} {x y : Int} (h : intP 4 r = some (x, r1)) (h1 : intP 1 r1 = some (y, r2)) : xG r = some (⟨x, y⟩, r2) := by unfold xG; rw [h]; simp only [Option.bind_some]; rw [h1]; rfl
set_option maxRecDepth 20000 in
set_option maxHeartbeats 4000000 in
theorem zC (g : Nat) (l : List UInt8) (w0 w : World) (h : Rd w0 w g l) (hb : Below w0.heap.size w0 w) (hg : w0.heap.size ≤ g) (hm : (l.length : Int) ≤ 100000) :
    Calls Tryd.prog 122 #[.pointer (some ⟨g, 0, none⟩)] w (PP (rJ l) (fun xs v w' => Kd.R k98 98 w' w.heap.size (fun _ => True) v xs) w0 w g) := by
  have HR := iC.mk h
  have HB := iC.mk hb
  have hlt := h.lt
  clear h hb
  cases hmy : many 1 5 l with
  | none =>
    have hn : rJ l = none := by unfold rJ; rw [hmy]; rfl
    have hcall := oZ 1 5 1 5 rfl rfl (by omega) (by omega) g l w0 w HR.out HB.out hg hmy
    have HN := iC.mk hn
    clear hmy hn
    go_enter Tryd.func122, Tryd.ntmps122
    go_wp2_with (go_at_call 130; refine hcall.mono ?_; rintro e w1 ⟨rfl, hG⟩)
    exact ⟨rfl, hG, .inr ⟨HN.out, rfl⟩⟩
  | some x =>
    obtain ⟨n, r0⟩ := x
    have hn : rJ l = repP xG n r0 := by unfold rJ; rw [hmy]; rfl
    have hcall := xQ 1 5 1 5 rfl rfl (by omega) (by omega) g l r0 n w0 w HR.out HB.out hg hmy
    have HN := iC.mk hn
    obtain ⟨hl1, hl2⟩ := nD hmy (by omega)
    have hn1 : (n : Int) ≤ 100000 := by omega
    have hmk := uC (t := 25) (e := 98) Tryd.underlying25 V7 (by omega) n hn1
    clear hmy hn hl1 hl2
    go_enter Tryd.func122, Tryd.ntmps122
    go_wp2_with (go_at_call 130; refine hcall.mono ?_; rintro e w1 ⟨rfl, hR, hG, hle⟩; clear hle; have HR1 := iC.mk hR; have HG1 := iC.mk hG; clear hR hG)
    have HO := iC.mk (QE (e := 98) (W := w1) (n := n) (base := w.heap.size) (x := .int .i64 0) (y := .int .i64 0) rfl rfl (by omega) HG1.out.size)
    have HG := iC.mk (jE HG1.out (grown_below (iF (Below.refl _ _) (.cells (madeCells #[.int .i64 0, .int .i64 0] (n * 2)) 98))))
    have HR2 := iC.mk (Rd.grown HR1.out (grown_below (row := none) (iF (Below.refl _ _) (.cells (madeCells #[.int .i64 0, .int .i64 0] (n * 2)) 98))) (by simp))
    clear HR1 HG1 hcall hmk
    obtain ⟨ad, had⟩ : ∃ ad : Addr, ad = ⟨w1.heap.size, 0, none⟩ := ⟨_, rfl⟩
    rw [← had] at HO ⊢
    obtain ⟨W2, hW⟩ : ∃ W2, W2 = w1.alloc (.cells (madeCells #[.int .i64 0, .int .i64 0] (n * 2)) 98) := ⟨_, rfl⟩
    rw [← hW] at HO HG HR2
    first | rw [← hW] | (rw [show w1.alloc (.cells (madeCells (Value.agg #[.int .i64 0, .int .i64 0]).cells (n * 2)) 98) = W2 from hW.symm])
    clear hW had
    go_loopw [10] (fun i wr => ∃ (k : Nat) (done : List kD) (r : List UInt8), k ≤ n ∧ i = .int .i64 k ∧ iC (Left xG n k r0 r done) ∧ iC (Rd w0 wr g r) ∧ iC (RW 98 wr w.heap.size (.slice (some ad) n n) (done.map encS ++ List.replicate (n - k) [.int .i64 0, .int .i64 0])) ∧ iC (w.grownBy wr (some g))) (fun i _ => n - (intOf i).toNat)
    case atStart => exact ⟨0, [], r0, Nat.zero_le _, rfl, ⟨Left.start _ _ _⟩, HR2, HO, HG⟩
    case round =>
      obtain ⟨k, done, r, hk, rfl, HL, HRd, HOk, HGk⟩ := hrel
      clear HR2 HO HG
      by_cases hkn : k < n
      · cases hp : intP 4 r with
        | none =>
          have hcall := kE 4 4 rfl g r w0 wr HRd.out (lN hp)
          have HF := iC.mk (Left.fail HL.out hkn (LQ hp))
          clear hp
          go_wp2_with (go_at_call 119; refine hcall.mono ?_; rintro e w2 ⟨rfl, hG⟩)
          exact ⟨rfl, jE HGk.out hG, .inr ⟨by rw [HN.out]; exact HF.out, rfl⟩⟩
        | some x =>
          obtain ⟨x, r1⟩ := x
          obtain ⟨hs1, hx, hr1⟩ := nX hp
          have hcall := mM 4 4 rfl (by omega) g r w0 wr HRd.out (below_grown HB.out HGk.out hg (Nat.le_refl _)) hs1
          have hsm := qE r 4 (by omega)
          rw [← hr1] at hcall
          obtain ⟨m, hm1⟩ : ∃ m, m = numB (r.take 4) := ⟨_, rfl⟩
          rw [← hm1] at hcall hsm hx
          subst hx
          clear hr1 hm1 hs1
          cases hp1 : intP 1 r1 with
          | none =>
            have HF := iC.mk (Left.fail HL.out hkn (MF hp hp1))
            have HP1 := iC.mk hp1
            clear hp hp1
            go_wp2_with fail
            refine hcall.mono ?_
            rintro e w2 ⟨rfl, hR, hG⟩
            obtain ⟨x0, y0, hrow, z0, z1, f0, f1, hbs, hbl, hset0, _⟩ := IP (kU HOk.out hG hlt) k hkn
            obtain ⟨hs0, hg0⟩ := hset0 (.int .i64 (m : Int)) rfl
            have HGR := iC.mk (lL (jE HGk.out hG) hg0 hbs)
            have HRR := iC.mk (Rd.grown hR hg0 (by (intro e; injection e with e; omega)))
            clear hset0 hs0 hg0 hR hG hrow z1 f1 hcall
            go_wp2_with fail
            refine (kE 1 1 rfl g r1 w0 _ HRR.out (lN HP1.out)).mono ?_
            rintro e w3 ⟨rfl, hG⟩
            go_wp2
            exact ⟨rfl, jE HGR.out hG, .inr ⟨by rw [HN.out]; exact HF.out, rfl⟩⟩
          | some y =>
            obtain ⟨y, r2⟩ := y
            have HN1 := iC.mk (Left.next HL.out hkn (OJ hp hp1))
            obtain ⟨hs2, hy, hr2⟩ := nX hp1
            have hsm2 := qE r1 1 (by omega)
            obtain ⟨m2, hm2⟩ : ∃ m2, m2 = numB (r1.take 1) := ⟨_, rfl⟩
            rw [← hm2] at hsm2 hy
            subst hy
            clear hp hp1
            go_wp2_with fail
            refine hcall.mono ?_
            rintro e w2 ⟨rfl, hR, hG⟩
            obtain ⟨x0, y0, hrow, z0, z1, f0, f1, hbs, hbl, hset0, _⟩ := IP (kU HOk.out hG hlt) k hkn
            obtain ⟨hs0, hg0⟩ := hset0 (.int .i64 (m : Int)) rfl
            have HGR := iC.mk (lL (jE HGk.out hG) hg0 hbs)
            have HRR := iC.mk (Rd.grown hR hg0 (by (intro e; injection e with e; omega)))
            have HS0 := iC.mk hs0
            clear hset0 hs0 hg0 hR hG hrow z1 f1 hcall
            go_wp2_with fail
            have hcall := mM 1 1 rfl (by omega) g r1 w0 _ HRR.out (below_grown HB.out HGR.out hg (Nat.le_refl _)) hs2
            rw [← hr2, ← hm2] at hcall
            refine hcall.mono ?_
            rintro e w3 ⟨rfl, hR, hG⟩
            obtain ⟨x1, y1, hrow, z0', z1, f0', f1, hbs1, hbl1, _, hset1⟩ := IP (kU HS0.out hG hlt) k hkn
            obtain ⟨hs1, hg1⟩ := hset1 (.int .i64 (m2 : Int)) rfl
            have hkl : k < (done.map encS ++ List.replicate (n - k) [Value.int .i64 0, .int .i64 0]).length := by rw [List.length_append, List.length_map, List.length_replicate, HL.out.1]; omega
            rw [List.getD_eq_getElem?_getD, List.getElem?_set_self hkl] at hrow
            have hx1 : x1 = .int .i64 (m : Int) := by injection hrow with hx _; exact hx.symm
            subst hx1
            rw [List.set_set] at hs1
            have HS1 := iC.mk hs1
            have HGR2 := iC.mk (lL (jE HGR.out hG) hg1 hbs1)
            have HRR2 := iC.mk (Rd.grown hR hg1 (by (intro e; injection e with e; omega)))
            clear hset1 hs1 hg1 hR hG hrow hcall z0 f0 z0' f0' hr2 hm2 hs2 hkl HS0 HGR HRR
            go_wp2
            go_roundw
            case rel => exact ⟨k + 1, done ++ [⟨(m : Int), (m2 : Int)⟩], r2, by omega, by go_num, HN1, HRR2, ⟨by rw [← JX encS _ [.int .i64 (m : Int), .int .i64 (m2 : Int)] done n k ⟨(m : Int), (m2 : Int)⟩ rfl HL.out.1 hkn]; exact HS1.out⟩, HGR2⟩
            case measure => simp [intOf]; omega
      · obtain rfl : k = n := by omega
        go_wp2
        go_ret
        have hd := HOk.out
        rw [Nat.sub_self, List.replicate_zero, List.append_nil] at hd
        refine ⟨HGk.out, .inl ⟨done, r, _, by rw [HN.out]; exact Left.done HL.out, rfl, ?_, HRd.out⟩⟩
        refine IG rfl hd (by rw [List.length_map]) (fun _ _ => trivial) (fun j p c hj hc => ?_)
        rw [List.getElem?_map, hj] at hc
        injection hc with hc
        subst hc
        exact QB _ _ _ _
end Go.Proofs.YtgfkgppomaapiaaDoor.K
end

section
namespace Go.Proofs.YtgfkgppomaapiaaDoor.My
open Go Go.RowKit Go.Proofs.YtgfkgppomaapiaaDoorW.PrintWords Go.Proofs.YtgfkgppomaapiaaDoorW.PrintLast
def entries (D : List Tmp) (vs : Nat → Value) : List (Nat × Tmp × Value) := (List.range D.length).map fun i => (i, D.getD i 0, vs i)
theorem kM {D : List Tmp} {vs : Nat → Value} {i : Nat} (h : i < D.length) : (entries D vs)[i]? = some (i, D.getD i 0, vs i) := by
  unfold entries
  rw [List.getElem?_map, List.getElem?_range h]
  rfl
theorem kP (D : List Tmp) (vs : Nat → Value) : (entries D vs).length = D.length := by simp [entries]
theorem xX {D : List Tmp} {vs : Nat → Value} {i : Nat} (v : Value) : (entries D vs).set i (i, D.getD i 0, v) = entries D (fun j => if j = i then v else vs j) := by
  apply List.ext_getElem?
  intro j
  by_cases hj : j < D.length
  · by_cases hij : i = j
    · subst hij
      rw [List.getElem?_set_self (by rw [kP]; exact hj), kM hj, if_pos rfl]
    · rw [List.getElem?_set_ne hij, kM hj, kM hj, if_neg (Ne.symm hij)]
  · rw [List.getElem?_eq_none (by simp [kP]; omega), List.getElem?_eq_none (by rw [kP]; omega)]
def uV (D : List Tmp) : Bool := decide D.Nodup
theorem OO {D : List Tmp} (h : D.Nodup) {i j : Nat} (hi : i < D.length) (hj : j < D.length) (e : D.getD i 0 = D.getD j 0) : i = j := by
  rw [List.getD_eq_getElem?_getD, List.getD_eq_getElem?_getD, List.getElem?_eq_getElem hi, List.getElem?_eq_getElem hj] at e
  simp only [Option.getD_some] at e
  have hp := List.pairwise_iff_getElem.1 h
  rcases Nat.lt_trichotomy i j with hij | hij | hij
  · exact absurd e (hp i j hi hj hij)
  · exact hij
  · exact absurd e.symm (hp j i hj hi hij)
theorem qU {b b' : Nat → Bool} : ∀ {L : List (Nat × Tmp × Value)} {a : Act}, (∀ e ∈ L, b e.1 = b' e.1) → jZ a b L = jZ a b' L
  | [], _, _ => rfl
  | e :: L, a, h => by
    unfold jZ
    rw [h e List.mem_cons_self]
    exact qU (fun x hx => h x (List.mem_cons_of_mem _ hx))
theorem nR {D : List Tmp} {vs : Nat → Value} {i : Nat} (hD : uV D = true) (hi : i < D.length) :
    (((entries D vs).take i ++ (entries D vs).drop (i + 1)).all fun e => !(e.1 == i) && !(e.2.1 == D.getD i 0)) = true := by
  have hnd : D.Nodup := of_decide_eq_true hD
  rw [List.all_eq_true]
  intro e he
  obtain ⟨j, hj, hne⟩ : ∃ j, (entries D vs)[j]? = some e ∧ j ≠ i := by
    rcases List.mem_append.1 he with h | h
    · obtain ⟨j, hj⟩ := List.getElem?_of_mem h
      rw [List.getElem?_take] at hj
      split at hj
      · exact ⟨j, hj, by omega⟩
      · cases hj
    · obtain ⟨j, hj⟩ := List.getElem?_of_mem h
      rw [List.getElem?_drop] at hj
      exact ⟨_, hj, by omega⟩
  have hjl : j < D.length := by have := (List.getElem?_eq_some_iff.1 hj).1; rwa [kP] at this
  rw [kM hjl] at hj
  simp only [Option.some.injEq] at hj
  subst hj
  simp only [Bool.and_eq_true, Bool.not_eq_true', beq_eq_false_iff_ne]
  exact ⟨hne, fun e => hne (OO hnd hjl hi e)⟩
section
variable {P : Program} {ops : Array Oper} {Q : Exit → Act → World → Prop} {T : Bool × List (List Nat × List Nat)} {B : List Nat}
def qX (P : Program) (ops : Array Oper) (Q : Exit → Act → World → Prop) (B : List Nat) (D : List Tmp) (R : Nat → Value → World → Prop) (a0 : Act) (w0 : World) (i : Nat) : Prop :=
  ∀ (a : Act) (w : World) (vs : Nat → Value), Below w0.heap.size w0 w → (∀ s, D.contains s = false → a.tmps[s]? = a0.tmps[s]?) →
    (∀ j, (B.getD i 0).testBit j = true → a.tmps[D.getD j 0]? = some (vs j) ∧ R j (vs j) w) →
    ∃ oi, ops[i]? = some oi ∧ oi.dst = some (D.getD i 0) ∧ ∀ K : Act → World → Prop, (∀ v w', R i v w' → Below w.heap.size w w' → K (a.put (some (D.getD i 0)) v) w') →
      if Region.wanted oi (yielded ops a.tmps) = true then Oper.wp P oi a w K Q else K (a.put (some (D.getD i 0)) undef) w
theorem OE {D : List Tmp} {R : Nat → Value → World → Prop} {a0 : Act} {w0 : World} : ∀ i ∈ ([] : List Nat), qX P ops Q B D R a0 w0 i := fun _ h => by cases h
theorem jF {D : List Tmp} {R : Nat → Value → World → Prop} {a0 : Act} {w0 : World} {i : Nat} {rs : List Nat} (h : qX P ops Q B D R a0 w0 i) (hs : ∀ j ∈ rs, qX P ops Q B D R a0 w0 j) : ∀ j ∈ i :: rs, qX P ops Q B D R a0 w0 j := fun j hj => by
  rcases List.mem_cons.1 hj with rfl | hj
  · exact h
  · exact hs j hj
def Rm (r : Value → World → Prop) : Prop := ∀ v w w', r v w → Below w.heap.size w w' → r v w'
theorem lK (t : Value) : Rm (fun v _ => v = t) := fun _ _ _ h _ => h
theorem VE : ∀ r ∈ ([] : List (Value → World → Prop)), Rm r := fun _ h => by cases h
theorem jQ {r : Value → World → Prop} {rs : List (Value → World → Prop)} (h : Rm r) (hs : ∀ r ∈ rs, Rm r) : ∀ x ∈ r :: rs, Rm x := fun x hx => by
  rcases List.mem_cons.1 hx with rfl | hx
  · exact h
  · exact hs x hx
def RR (Rs : List (Value → World → Prop)) : Nat → Value → World → Prop := fun i => Rs.getD i (fun _ _ => True)
theorem VL {Rs : List (Value → World → Prop)} (h : ∀ r ∈ Rs, Rm r) : ∀ i v w w', RR Rs i v w → Below w.heap.size w w' → RR Rs i v w' := by
  intro i v w w' hr hb
  unfold RR at *
  rcases Nat.lt_or_ge i Rs.length with hl | hl
  · have e : Rs.getD i (fun _ _ => True) = Rs[i] := by rw [List.getD_eq_getElem?_getD, List.getElem?_eq_getElem hl]; rfl
    rw [e] at hr ⊢
    exact h _ (List.getElem_mem hl) v w w' hr hb
  · rw [List.getD_eq_getElem?_getD, List.getElem?_eq_none hl]
    trivial
theorem JV {id : Nat} {a0 : Act} {w0 : World} (D : List Tmp) (R : Nat → Value → World → Prop) (hm : P.follows .mixedOrders = true)
    (hT : rtab .any ops = T) (hw : mF T.2 B = true) (hk : oP T.2 (List.range ops.size) = true) (hD : uV D = true) (hDn : D.length = ops.size)
    (hin : (D.all fun t => Nat.ble (t + 1) a0.tmps.size) = true) (hBn : ((List.range ops.size).all fun i => Nat.ble (B.getD i 0) (2 ^ ops.size - 1)) = true)
    (hmono : ∀ i v w w', R i v w → Below w.heap.size w w' → R i v w')
    (hs : ∀ i ∈ List.range ops.size, qX P ops Q B D R a0 w0 i)
    (hend : ∀ (vs : Nat → Value) (w : World), Below w0.heap.size w0 w → (∀ i, i < ops.size → R i (vs i) w) → Q .normal (jZ a0 (fun _ => true) (entries D vs)) w) :
    (Code.region id ops true).wp P Q a0 w0 := by
  have hTl : T.2.length = ops.size := by rw [← hT, nC]
  refine qP (n := ops.size) (S := fun _ => True) (ds := []) (Array.replicate ops.size false) hm rfl rfl trivial (fun _ => ?_)
  refine inv_ (T := T) (B := B) (List.range ops.size) (fun b a w => ∃ vs : Nat → Value, a = jZ a0 b (entries D vs) ∧ (∀ i, i < ops.size → b i = true → R i (vs i) w) ∧ Below w0.heap.size w0 w) hT hw hk ?_ ?_ ?_ ?_
  · simp only [Bool.and_eq_true, beq_iff_eq, List.length_range, and_true]
    rw [hTl]
    apply List.ext_getElem
    · simp [lof]
    · intro i h1 h2
      simp [lof] at h1 ⊢
      exact h1
  · refine ⟨fun _ => undef, ?_, (fun _ _ h => by cases h), lG (Below.refl _ _)⟩
    have : ∀ (L : List (Nat × Tmp × Value)) (a : Act), jZ a (fun _ => false) L = a := by
      intro L
      induction L with
      | nil => intro a; rfl
      | cons e L ih => intro a; unfold jZ; rw [if_neg (by simp)]; exact ih a
    rw [this]
  · intro i hi
    have hil : i < ops.size := List.mem_range.1 hi
    have hiD : i < D.length := by omega
    intro b a w ⟨vs, ha, hR, hB⟩ hb hon hoff
    have hsz : ∀ s, D.contains s = false → a.tmps[s]? = a0.tmps[s]? := by
      intro s hsD
      rw [ha]
      refine oW ?_
      rw [List.all_eq_true]
      intro e he
      obtain ⟨j, hj⟩ := List.getElem?_of_mem he
      have hjl : j < D.length := by have := (List.getElem?_eq_some_iff.1 hj).1; rwa [kP] at this
      rw [kM hjl] at hj
      simp only [Option.some.injEq] at hj
      subst hj
      simp only [Bool.not_eq_true', beq_eq_false_iff_ne]
      intro h
      have : D.contains s = true := by
        rw [List.contains_iff_mem, ← h, List.getD_eq_getElem?_getD, List.getElem?_eq_getElem hjl]
        exact List.getElem_mem hjl
      rw [this] at hsD
      cases hsD
    have hdep : ∀ j, (B.getD i 0).testBit j = true → a.tmps[D.getD j 0]? = some (vs j) ∧ R j (vs j) w := by
      intro j hj
      have hjn : j < ops.size := by
        rcases Nat.lt_or_ge j ops.size with h | h
        · exact h
        · have h1 := List.all_eq_true.1 hBn i hi
          have h2 : B.getD i 0 ≤ 2 ^ ops.size - 1 := Nat.le_of_ble_eq_true h1
          have h3 : B.getD i 0 < 2 ^ j := Nat.lt_of_le_of_lt h2 (Nat.lt_of_lt_of_le (Nat.sub_lt (Nat.two_pow_pos _) Nat.one_pos) (Nat.pow_le_pow_right (by decide) h))
          rw [Nat.testBit_lt_two_pow h3] at hj
          cases hj
      have hbj : b j = true := hon j (by rw [Bool.and_eq_true]; exact ⟨by simpa using hjn, hj⟩)
      refine ⟨?_, hR j hjn hbj⟩
      rw [ha]
      have hjD : j < D.length := by omega
      refine xI (e := (j, D.getD j 0, vs j)) j (kM hjD) ?_ hbj ?_
      · have := nR (vs := vs) hD hjD
        rw [List.all_append, Bool.and_eq_true] at this
        have h2 := this.2
        rw [List.all_eq_true] at h2 ⊢
        intro x hx
        have := h2 x hx
        rw [Bool.and_eq_true] at this
        exact this.2
      · have h1 := List.all_eq_true.1 hin (D.getD j 0) (by rw [List.getD_eq_getElem?_getD, List.getElem?_eq_getElem hjD]; exact List.getElem_mem hjD)
        exact h1
    obtain ⟨oi, ho, hdst, hstep⟩ := hs i hi a w vs hB hsz hdep
    refine ⟨oi, ho, fun K hK => ?_⟩
    rw [hdst]
    refine hstep K fun v w' hv hbw => ?_
    refine hK.out _ _ ⟨fun j => if j = i then v else vs j, ?_, ?_, iI hB hbw⟩
    · rw [ha]
      exact zA i hb (kM hiD) (xX v) (nR hD hiD)
    · intro j hj hbj
      by_cases hji : j = i
      · subst hji
        simp only [if_pos]
        exact hv
      · simp only [if_neg hji]
        rw [vW hji] at hbj
        exact hmono _ _ _ _ (hR j hj hbj) hbw
  · intro b a w hall ⟨vs, ha, hR, hB⟩
    have : jZ a0 b (entries D vs) = jZ a0 (fun _ => true) (entries D vs) := by
      have hlt : ∀ e ∈ entries D vs, b e.1 = true := by
        intro e he
        obtain ⟨j, hj⟩ := List.getElem?_of_mem he
        have hjl : j < D.length := by have := (List.getElem?_eq_some_iff.1 hj).1; rwa [kP] at this
        rw [kM hjl] at hj
        simp only [Option.some.injEq] at hj
        subst hj
        exact hall j (by simpa using (by omega : j < ops.size))
      exact qU (fun e he => hlt e he)
    rw [ha, this]
    exact hend vs w hB (fun i hi => hR i hi (hall i (by simpa using hi)))
theorem VN {id : Nat} {a0 : Act} {w0 : World} (D : List Tmp) (Rs : List (Value → World → Prop)) (L : List Nat) (T : Bool × List (List Nat × List Nat)) (B : List Nat) (hm : P.follows .mixedOrders = true)
    (hT : rtab .any ops = T) (hL : List.range ops.size = L) (hw : mF T.2 B = true) (hk : oP T.2 L = true) (hD : uV D = true) (hDn : D.length = ops.size)
    (hin : (D.all fun t => Nat.ble (t + 1) a0.tmps.size) = true) (hBn : (L.all fun i => Nat.ble (B.getD i 0) (2 ^ D.length - 1)) = true)
    (hmono : ∀ r ∈ Rs, Rm r) (hs : ∀ i ∈ L, qX P ops Q B D (RR Rs) a0 w0 i)
    (hend : ∀ (vs : Nat → Value) (w : World), Below w0.heap.size w0 w → (∀ i, Nat.ble (i + 1) D.length = true → RR Rs i (vs i) w) → Q .normal (jZ a0 (fun _ => true) (entries D vs)) w) :
    (Code.region id ops true).wp P Q a0 w0 := by
  subst hL
  rw [hDn] at hBn
  exact JV D (RR Rs) hm hT hw hk hD hDn hin hBn (VL hmono) hs (fun vs w hb h => hend vs w hb (fun i hi => h i (by have := Nat.le_of_ble_eq_true hi; omega)))
end
end Go.Proofs.YtgfkgppomaapiaaDoor.My
end

section
namespace Go.Proofs.YtgfkgppomaapiaaDoor.My
open Go Go.RowKit Go.Proofs.YtgfkgppomaapiaaDoorW.PrintWords Go.Proofs.YtgfkgppomaapiaaDoorW.PrintLast
section
variable {P : Program} {ops : Array Oper} {Q : Exit → Act → World → Prop} {T : Bool × List (List Nat × List Nat)} {B : List Nat}
def Met (B : List Nat) (D : List Tmp) (V : Nat → Value) (a0 a : Act) (i : Nat) : Prop :=
  (∀ s, D.contains s = false → a.tmps[s]? = a0.tmps[s]?) ∧ (∀ j, (B.getD i 0).testBit j = true → a.tmps[D.getD j 0]? = some (V j)) ∧ a.defers = a0.defers
def uB (P : Program) (ops : Array Oper) (Q : Exit → Act → World → Prop) (B : List Nat) (D : List Tmp) (V : Nat → Value) (a0 : Act) (Ok : World → Prop) (i : Nat) : Prop :=
  ∀ (a : Act) (w : World), Ok w → Met B D V a0 a i → ∃ oi, ops[i]? = some oi ∧ oi.dst = some (D.getD i 0) ∧ ∀ K : Act → World → Prop, K (a.put (some (D.getD i 0)) (V i)) w →
    if Region.wanted oi (yielded ops a.tmps) = true then Oper.wp P oi a w K Q else K (a.put (some (D.getD i 0)) undef) w
theorem yV {D : List Tmp} {V : Nat → Value} {a0 : Act} {Ok : World → Prop} : ∀ i ∈ ([] : List Nat), uB P ops Q B D V a0 Ok i := fun _ h => by cases h
theorem jW {D : List Tmp} {V : Nat → Value} {a0 : Act} {Ok : World → Prop} {i : Nat} {rs : List Nat} (h : uB P ops Q B D V a0 Ok i) (hs : ∀ j ∈ rs, uB P ops Q B D V a0 Ok j) : ∀ j ∈ i :: rs, uB P ops Q B D V a0 Ok j := fun j hj => by
  rcases List.mem_cons.1 hj with rfl | hj
  · exact h
  · exact hs j hj
theorem VD {oi : Oper} {N : Option Tmp} {a : Act} {w : World} {K : Act → World → Prop} {f : FuncId} {fn : Func} {ops0 : Array Operand} {ts : Array TypeId} (hf : P.funcs[f]? = some fn) (hname : (fn.name == "runtime.NumGoroutine") = false) (hb : fn.body.isSome = true) (args : Array Value)
    (hw : Region.wanted oi (yielded ops a.tmps) = true) (hop : oi.op = .call { callee := .value (.func f), args := ops0, argTypes := ts }) (hargs : ops0.map a.eval = args)
    (h : Calls P f args w fun e w' => ∃ chain, e = .panicked chain ∧ Q (.panic chain) a w') : if Region.wanted oi (yielded ops a.tmps) = true then Oper.wp P oi a w K Q else K (a.put N undef) w := by
  have he := LW hf hname hb args w
  have hrun : (execOp a.eval oi).run P w = .ok (.enter f args) w := by
    unfold execOp
    simp [hop, resolve, Deferred.ofValue, invoke, Act.eval, hargs, he]
  rw [if_pos hw]
  unfold Oper.wp
  rw [hrun, Oper.upon_enter]
  refine h.mono fun e w'' hh => ?_
  obtain ⟨chain, rfl, hk⟩ := hh
  exact hk
theorem zT {id : Nat} {a0 : Act} {w0 : World} (D : List Tmp) (V : Nat → Value) (c : Nat) (Aft Fin : World → Prop) (L : List Nat) (Lp : List Nat) (T : Bool × List (List Nat × List Nat)) (B : List Nat) (hm : P.follows .mixedOrders = true)
    (hT : rtab .any ops = T) (hL : List.range ops.size = L) (hw : mF T.2 B = true) (hk : oP T.2 L = true) (hD : uV D = true) (hDn : D.length + 1 = ops.size)
    (hin : (D.all fun t => Nat.ble (t + 1) a0.tmps.size) = true) (hBn : (L.all fun i => Nat.ble (B.getD i 0) (2 ^ D.length - 1)) = true)
    (hLp : ((List.range D.length).all fun i => i == c || Lp.contains i) = true)
    (hlast : ((List.range D.length).all fun j => (B.getD D.length 0).testBit j) = true)
    (hpure : ∀ i ∈ Lp, uB P ops Q B D V a0 (fun w => w = w0.drew ∨ Aft w) i)
    (hcall : ∀ (a : Act), Met B D V a0 a c → ∃ oi, ops[c]? = some oi ∧ oi.dst = some (D.getD c 0) ∧ ∀ K : Act → World → Prop, (∀ w', Aft w' → K (a.put (some (D.getD c 0)) (V c)) w') →
      if Region.wanted oi (yielded ops a.tmps) = true then Oper.wp P oi a w0.drew K Q else K (a.put (some (D.getD c 0)) undef) w0.drew)
    (hc : Nat.ble (c + 1) D.length = true)
    (hstore : ∀ (a : Act) (w : World), Aft w → Met B D V a0 a D.length → ∃ om, ops[D.length]? = some om ∧ om.dst = none ∧ ∀ K : Act → World → Prop, (∀ w', Fin w' → K a w') →
      if Region.wanted om (yielded ops a.tmps) = true then Oper.wp P om a w K Q else K (a.put none undef) w)
    (hend : ∀ w, Fin w → Q .normal (jZ a0 (fun _ => true) (entries D V)) w) :
    (Code.region id ops true).wp P Q a0 w0 := by
  subst hL
  have hTl : T.2.length = ops.size := by rw [← hT, nC]
  have hcl : c < D.length := by have := Nat.le_of_ble_eq_true hc; omega
  refine qP (n := ops.size) (S := fun _ => True) (ds := []) (Array.replicate ops.size false) hm rfl rfl trivial (fun _ => ?_)
  have hall : ∀ {b : Nat → Bool}, (∀ j, j < D.length → b j = true) → jZ a0 b (entries D V) = jZ a0 (fun _ => true) (entries D V) := by
    intro b hb
    refine qU (fun e he => ?_)
    obtain ⟨j, hj⟩ := List.getElem?_of_mem he
    have hjl : j < D.length := by have := (List.getElem?_eq_some_iff.1 hj).1; rwa [kP] at this
    rw [kM hjl] at hj
    simp only [Option.some.injEq] at hj
    subst hj
    exact hb j hjl
  have hoffs : ∀ (b : Nat → Bool) s, D.contains s = false → (jZ a0 b (entries D V)).tmps[s]? = a0.tmps[s]? := by
    intro b s hsD
    refine oW ?_
    rw [List.all_eq_true]
    intro e he
    obtain ⟨j, hj⟩ := List.getElem?_of_mem he
    have hjl : j < D.length := by have := (List.getElem?_eq_some_iff.1 hj).1; rwa [kP] at this
    rw [kM hjl] at hj
    simp only [Option.some.injEq] at hj
    subst hj
    simp only [Bool.not_eq_true', beq_eq_false_iff_ne]
    intro h
    have : D.contains s = true := by
      rw [List.contains_iff_mem, ← h, List.getD_eq_getElem?_getD, List.getElem?_eq_getElem hjl]
      exact List.getElem_mem hjl
    rw [this] at hsD
    cases hsD
  have hons : ∀ (b : Nat → Bool) j, j < D.length → b j = true → (jZ a0 b (entries D V)).tmps[D.getD j 0]? = some (V j) := by
    intro b j hjD hbj
    refine xI (e := (j, D.getD j 0, V j)) j (kM hjD) ?_ hbj ?_
    · have := nR (vs := V) hD hjD
      rw [List.all_append, Bool.and_eq_true] at this
      have h2 := this.2
      rw [List.all_eq_true] at h2 ⊢
      intro x hx
      have := h2 x hx
      rw [Bool.and_eq_true] at this
      exact this.2
    · exact List.all_eq_true.1 hin (D.getD j 0) (by rw [List.getD_eq_getElem?_getD, List.getElem?_eq_getElem hjD]; exact List.getElem_mem hjD)
  refine inv_ (T := T) (B := B) (List.range ops.size) (fun b a w => a = jZ a0 b (entries D V) ∧ (b D.length = true → (∀ j, j < D.length → b j = true) ∧ Fin w) ∧ (b D.length = false → if b c = true then Aft w else w = w0.drew)) hT hw hk ?_ ?_ ?_ ?_
  · simp only [Bool.and_eq_true, beq_iff_eq, List.length_range, and_true]
    rw [hTl]
    apply List.ext_getElem
    · simp [lof]
    · intro i h1 h2
      simp [lof] at h1 ⊢
      exact h1
  · refine ⟨?_, (fun h => by cases h), fun _ => by simp⟩
    have : ∀ (L : List (Nat × Tmp × Value)) (a : Act), jZ a (fun _ => false) L = a := by
      intro L
      induction L with
      | nil => intro a; rfl
      | cons e L ih => intro a; unfold jZ; rw [if_neg (by simp)]; exact ih a
    rw [this]
  · intro i hi
    have hil : i < ops.size := List.mem_range.1 hi
    intro b a w ⟨ha, hfin, hbef⟩ hb hon hoff
    have hdepb : ∀ j, (B.getD i 0).testBit j = true → j < D.length ∧ b j = true := by
      intro j hj
      have hjn : j < D.length := by
        rcases Nat.lt_or_ge j D.length with h | h
        · exact h
        · have h1 := List.all_eq_true.1 hBn i hi
          have h2 : B.getD i 0 ≤ 2 ^ D.length - 1 := Nat.le_of_ble_eq_true h1
          have h3 : B.getD i 0 < 2 ^ j := Nat.lt_of_le_of_lt h2 (Nat.lt_of_lt_of_le (Nat.sub_lt (Nat.two_pow_pos _) Nat.one_pos) (Nat.pow_le_pow_right (by decide) h))
          rw [Nat.testBit_lt_two_pow h3] at hj
          cases hj
      exact ⟨hjn, hon j (by rw [Bool.and_eq_true]; exact ⟨by simpa using (by omega : j < ops.size), hj⟩)⟩
    have hmet : Met B D V a0 a i := by
      subst ha
      exact ⟨hoffs b, fun j hj => hons b j (hdepb j hj).1 (hdepb j hj).2, (rU b _ _).2⟩
    by_cases hiD : i < D.length
    · have hne : b D.length = false := by
        cases hbD : b D.length with
        | false => rfl
        | true => rw [(hfin hbD).1 i hiD] at hb; cases hb
      have hbw := hbef hne
      have hup : up b i D.length = false := by rw [vW (by omega)]; exact hne
      have hnext : a.put (some (D.getD i 0)) (V i) = jZ a0 (up b i) (entries D V) := by
        rw [ha]
        exact zA i hb (kM hiD) (by rw [xX]; congr 1; funext j; split <;> simp_all) (nR hD hiD)
      by_cases hic : i = c
      · subst hic
        rw [if_neg (by rw [hb]; decide)] at hbw
        subst hbw
        obtain ⟨oi, ho, hdst, hstep⟩ := hcall a hmet
        refine ⟨oi, ho, fun K hK => ?_⟩
        rw [hdst]
        refine hstep K fun w' hw' => hK.out _ _ ⟨hnext, (fun h => by rw [hup] at h; cases h), fun _ => ?_⟩
        rw [if_pos (uY b i)]
        exact hw'
      · have hLi : i ∈ Lp := by
          have := List.all_eq_true.1 hLp i (List.mem_range.2 hiD)
          rw [Bool.or_eq_true, beq_iff_eq] at this
          rcases this with h | h
          · exact absurd h hic
          · exact List.contains_iff_mem.1 h
        obtain ⟨oi, ho, hdst, hstep⟩ := hpure i hLi a w (by
          split at hbw
          · exact .inr hbw
          · exact .inl hbw) hmet
        refine ⟨oi, ho, fun K hK => ?_⟩
        rw [hdst]
        refine hstep K (hK.out _ _ ⟨hnext, (fun h => by rw [hup] at h; cases h), fun _ => ?_⟩)
        rw [vW (Ne.symm hic)]
        exact hbw
    · have hiD' : i = D.length := by omega
      subst hiD'
      have hbs : ∀ j, j < D.length → b j = true := fun j hj => (hdepb j (List.all_eq_true.1 hlast j (List.mem_range.2 hj))).2
      have hbw := hbef hb
      rw [if_pos (hbs c hcl)] at hbw
      have ha' : a = jZ a0 (fun _ => true) (entries D V) := by rw [ha, hall hbs]
      subst ha'
      obtain ⟨om, ho, hdst, hstep⟩ := hstore _ w hbw hmet
      refine ⟨om, ho, fun K hK => ?_⟩
      rw [hdst]
      refine hstep K fun w' hw' => ?_
      refine hK.out _ _ ⟨?_, fun _ => ⟨fun j hj => by rw [vW (by omega)]; exact hbs j hj, hw'⟩, fun h => by rw [uY] at h; cases h⟩
      rw [hall (b := up b D.length) (fun j hj => by rw [vW (by omega)]; exact hbs j hj)]
  · intro b a w hallb ⟨ha, hfin, _⟩
    have hb : ∀ j, j < D.length + 1 → b j = true := fun j hj => hallb j (by simpa using (by omega : j < ops.size))
    have hf := hfin (hb _ (Nat.lt_succ_self _))
    rw [ha, hall hf.1]
    exact hend w hf.2
end
end Go.Proofs.YtgfkgppomaapiaaDoor.My
end

section
namespace Go.Proofs.YtgfkgppomaapiaaDoor.K
open RowKit YtgfkgppomaapiaaDoorW.PrintWords YtgfkgppomaapiaaDoorW.PrintLast YtgfkgppomaapiaaDoorW.PrintMore My
theorem QS : (Tryd.prog.info? 139).map (fun i => (i.zero, i.size, i.bytes)) = some (some (.agg #[(.slice none 0 0), (.int .i64 0)]), 2, 32) := by kernel_rfl
def lS {α : Type} (d : Kd α) (w : World) (base : Nat) (P : Nat → Prop) (done : List α) (rows : List (List Value)) : Prop :=
  ∀ (j : Nat) (p : α) (c : List Value), done[j]? = some p → rows[j]? = some c → d.M w base P p c
theorem lS.move {α : Type} {d : Kd α} {w w' : World} {base : Nat} {P : Nat → Prop} {done : List α} {rows : List (List Value)} (h : lS d w base P done rows) (hm : ∀ b, P b → base ≤ b → b < w.heap.size → w'.heap[b]? = w.heap[b]?) : lS d w' base P done rows := fun j p c hj hc =>
  d.M_mono (fun _ hk => hk.1) (d.M_move (fun k hk => hm k hk.1 hk.2.1 hk.2.2.1) (d.M_bound (h j p c hj hc)))
theorem lS.bound {α : Type} {d : Kd α} {w : World} {base : Nat} {P : Nat → Prop} {done : List α} {rows : List (List Value)} (h : lS d w base P done rows) : lS d w base (fun b => P b ∧ b < w.heap.size) done rows := fun j p c hj hc =>
  d.M_mono (fun _ hk => ⟨hk.1, hk.2.2.1⟩) (d.M_bound (h j p c hj hc))
theorem lS.mono {α : Type} {d : Kd α} {w : World} {base : Nat} {P P' : Nat → Prop} {done : List α} {rows : List (List Value)} (h : lS d w base P done rows) (hp : ∀ b, P b → P' b) : lS d w base P' done rows := fun j p c hj hc => d.M_mono hp (h j p c hj hc)
theorem lS.set {α : Type} {d : Kd α} {w : World} {base : Nat} {P : Nat → Prop} {done : List α} {rows : List (List Value)} {k : Nat} (h : lS d w base P done rows) (hk : done.length ≤ k) (u : List Value) : lS d w base P done (rows.set k u) := fun j p c hj hc => by
  have hjl := (List.getElem?_eq_some_iff.1 hj).1
  rw [List.getElem?_set_ne (by omega)] at hc
  exact h j p c hj hc
theorem lS.snoc {α : Type} {d : Kd α} {w : World} {base : Nat} {P : Nat → Prop} {done : List α} {rows : List (List Value)} {x : α} {c : List Value} (h : lS d w base P done rows) (hc : rows[done.length]? = some c) (hx : d.M w base P x c) : lS d w base P (done ++ [x]) rows := fun j p c' hj hc' => by
  rcases Nat.lt_or_ge j done.length with hj' | hj'
  · rw [List.getElem?_append_left hj'] at hj
    exact h j p c' hj hc'
  · have hjl := (List.getElem?_eq_some_iff.1 hj).1
    rw [List.length_append, List.length_singleton] at hjl
    obtain rfl : j = done.length := by omega
    rw [List.getElem?_append_right (Nat.le_refl _), Nat.sub_self] at hj
    obtain rfl : x = p := by simpa using hj
    rw [hc] at hc'
    injection hc' with hc'
    subst hc'
    exact hx
theorem lS.grown {α : Type} {d : Kd α} {w w' : World} {base g : Nat} {P : Nat → Prop} {done : List α} {rows : List (List Value)} (h : lS d w base P done rows) (hg : w.grownBy w' (some g)) (hlt : g < base) : lS d w' base P done rows :=
  h.move (fun b _ hb hl => hg.block b hl (fun e => by injection e with e; omega))
theorem lS.other {α : Type} {d : Kd α} {w w' : World} {base g : Nat} {P : Nat → Prop} {done : List α} {rows : List (List Value)} (h : lS d w base P done rows) (hg : w.grownBy w' (some g)) (hp : ∀ b, P b → b ≠ g) : lS d w' base P done rows :=
  h.move (fun b hb _ hl => hg.block b hl (fun e => hp b hb (by injection e)))
theorem MH {α : Type} {d : Kd α} {e : Nat} {w w1 : World} {base : Nat} {ok : Nat → Prop} {v : Value} {xs : List α} {g : Nat} (h : d.R e w base ok v xs) (hE : d.E = []) (hg : w.grownBy w1 (some g)) (hne : some g ≠ v.ownBlock) : d.R e w1 base ok v xs := by
  have h1 := Kd.R_tight hE h
  have h2 := Kd.R_grown h1 hg (fun k hk e => hne (by rw [← hk]; exact e.symm))
  exact ⟨fun k hk => h.1 k hk, (by
    obtain ⟨_, inner, ho, hr⟩ := h2
    refine ⟨inner, ho, hr.imp_ (fun p c hp => ?_)⟩
    refine d.M_mono (fun k hk => ?_) (d.M_bound hp)
    obtain ⟨_, _, _, q, hq, _⟩ := hk
    rw [hE] at hq
    cases hq)⟩
theorem LX {r : List UInt8} (h : many 1 4 r = none) : vJ r = none := by unfold vJ; rw [h]; rfl
theorem LV {r r1 : List UInt8} {n : Nat} (h : many 1 4 r = some (n, r1)) (h1 : repP (intP 4) n r1 = none) : vJ r = none := by unfold vJ; rw [h]; simp only [Option.bind_some]; rw [h1]; rfl
theorem L9 {r r1 r2 : List UInt8} {n : Nat} {ks : List Int} (h : many 1 4 r = some (n, r1)) (h1 : repP (intP 4) n r1 = some (ks, r2)) (h2 : number 8 r2 = none) : vJ r = none := by unfold vJ; rw [h]; simp only [Option.bind_some]; rw [h1]; simp only [Option.bind_some]; rw [h2]; rfl
theorem NU {r r1 r2 r3 : List UInt8} {n m : Nat} {ks : List Int} (h : many 1 4 r = some (n, r1)) (h1 : repP (intP 4) n r1 = some (ks, r2)) (h2 : number 8 r2 = some (m, r3)) : vJ r = some (⟨ks, s64 m⟩, r3) := by unfold vJ; rw [h]; simp only [Option.bind_some]; rw [h1]; simp only [Option.bind_some]; rw [h2]; rfl
theorem UH (m : Nat) (h : m < 18446744073709551616) : wrap64 (m : Int) = s64 m := by
  unfold wrap64 s64
  split <;> omega
theorem WU (l : List UInt8) : numB (l.take 8) < 18446744073709551616 := by
  have h1 := IL (l.take 8)
  have h2 : (l.take 8).length ≤ 8 := by rw [List.length_take]; omega
  have h3 : 256 ^ (l.take 8).length ≤ 256 ^ 8 := Nat.pow_le_pow_right (by decide) h2
  have h4 : 256 ^ 8 = 18446744073709551616 := by decide
  omega
def Short {α : Type} (p : List UInt8 → Option (α × List UInt8)) : Prop := ∀ l x r, p l = some (x, r) → r.length ≤ l.length
theorem nY (s : Nat) : Short (intP s) := fun l x r h => by
  obtain ⟨_, _, rfl⟩ := nX h
  rw [List.length_drop]; omega
theorem oN {α : Type} {p : List UInt8 → Option (α × List UInt8)} (hp : Short p) : ∀ n, Short (repP p n)
  | 0, l, x, r, h => by
    simp only [repP, Option.some.injEq, Prod.mk.injEq] at h
    rw [h.2]; exact Nat.le_refl _
  | n + 1, l, x, r, h => by
    rw [xB] at h
    obtain ⟨⟨y, r1⟩, h1, h⟩ := Option.bind_eq_some_iff.1 h
    obtain ⟨⟨ys, r2⟩, h2, h⟩ := Option.bind_eq_some_iff.1 h
    simp only [Option.some.injEq, Prod.mk.injEq] at h
    have a := hp _ _ _ h1
    have b := oN hp n _ _ _ h2
    rw [← h.2]
    exact Nat.le_trans b a
theorem O4 : Short vJ := fun l x r h => by
  unfold vJ at h
  obtain ⟨⟨n, r1⟩, h1, h⟩ := Option.bind_eq_some_iff.1 h
  obtain ⟨⟨ks, r2⟩, h2, h⟩ := Option.bind_eq_some_iff.1 h
  obtain ⟨⟨m, r3⟩, h3, h⟩ := Option.bind_eq_some_iff.1 h
  simp only [Option.some.injEq, Prod.mk.injEq] at h
  have a := (nD h1 (by omega)).1
  have b := oN (nY 4) n _ _ _ h2
  obtain ⟨_, _, hd⟩ := mZ h3
  simp only at a b hd
  have c : r3.length ≤ r2.length := by rw [hd, List.length_drop]; omega
  rw [← h.2]
  omega
theorem zY (rows : List (List Value)) (k : Nat) (u : List Value) (h : k < rows.length) : (rows.set k u).getD k [] = u := by
  rw [List.getD_eq_getElem?_getD, List.getElem?_set_self h]; rfl
set_option maxRecDepth 20000 in
set_option maxHeartbeats 8000000 in
theorem vI (g : Nat) (l : List UInt8) (w0 w : World) (h : Rd w0 w g l) (hb : Below w0.heap.size w0 w) (hg : w0.heap.size ≤ g) (hm : (l.length : Int) ≤ 100000) :
    Calls Tryd.prog 121 #[.pointer (some ⟨g, 0, none⟩)] w (PP (oG l) (fun xs v w' => Kd.R k139 139 w' w.heap.size (fun _ => True) v xs) w0 w g) := by
  have HR := iC.mk h
  have HB := iC.mk hb
  have hlt := h.lt
  clear h hb
  cases hmy : many 4 9 l with
  | none =>
    have hn : oG l = none := by unfold oG; rw [hmy]; rfl
    have hcall := oZ 4 9 4 9 rfl rfl (by omega) (by omega) g l w0 w HR.out HB.out hg hmy
    have HN := iC.mk hn
    clear hmy hn
    go_enter Tryd.func121, Tryd.ntmps121
    go_wp2_with (go_at_call 130; refine hcall.mono ?_; rintro e w1 ⟨rfl, hG⟩)
    exact ⟨rfl, hG, .inr ⟨HN.out, rfl⟩⟩
  | some x =>
    obtain ⟨n, r0⟩ := x
    have hn : oG l = repP vJ n r0 := by unfold oG; rw [hmy]; rfl
    have hcall := xQ 4 9 4 9 rfl rfl (by omega) (by omega) g l r0 n w0 w HR.out HB.out hg hmy
    have HN := iC.mk hn
    obtain ⟨hl1, hl2⟩ := nD hmy (by omega)
    have hn1 : (n : Int) ≤ 100000 := by omega
    have hr0 : (r0.length : Int) ≤ 100000 := by omega
    have hmk := uC (t := 24) (e := 139) Tryd.underlying24 QS (by omega) n hn1
    clear hmy hn hl1 hl2
    go_enter Tryd.func121, Tryd.ntmps121
    go_wp2_with (go_at_call 130; refine hcall.mono ?_; rintro e w1 ⟨rfl, hR, hG, hle⟩; clear hle; have HR1 := iC.mk hR; have HG1 := iC.mk hG; clear hR hG)
    have HO := iC.mk (QE (e := 139) (W := w1) (n := n) (base := w.heap.size) (x := .slice none 0 0) (y := .int .i64 0) rfl rfl (by omega) HG1.out.size)
    have HG := iC.mk (jE HG1.out (grown_below (iF (Below.refl _ _) (.cells (madeCells #[.slice none 0 0, .int .i64 0] (n * 2)) 139))))
    have HR2 := iC.mk (Rd.grown HR1.out (grown_below (row := none) (iF (Below.refl _ _) (.cells (madeCells #[.slice none 0 0, .int .i64 0] (n * 2)) 139))) (by simp))
    clear HR1 HG1 hcall hmk
    obtain ⟨ad, had⟩ : ∃ ad : Addr, ad = ⟨w1.heap.size, 0, none⟩ := ⟨_, rfl⟩
    rw [← had] at HO ⊢
    obtain ⟨W2, hW⟩ : ∃ W2, W2 = w1.alloc (.cells (madeCells #[.slice none 0 0, .int .i64 0] (n * 2)) 139) := ⟨_, rfl⟩
    rw [← hW] at HO HG HR2
    first | rw [← hW] | (rw [show w1.alloc (.cells (madeCells (Value.agg #[.slice none 0 0, .int .i64 0]).cells (n * 2)) 139) = W2 from hW.symm])
    clear hW had
    go_loopw [11] (fun i wr => ∃ (k : Nat) (done : List jO) (r : List UInt8) (rows : List (List Value)), k ≤ n ∧ i = .int .i64 k ∧ iC (Left vJ n k r0 r done) ∧ (r.length : Int) ≤ 100000 ∧ iC (Rd w0 wr g r) ∧ iC (RW 139 wr w.heap.size (.slice (some ad) n n) rows) ∧ iC (rows.length = n) ∧ iC (lS k139 wr w.heap.size (fun b => b ≠ ad.block) done rows) ∧ iC (w.grownBy wr (some g))) (fun i _ => n - (intOf i).toNat)
    case atStart => exact ⟨0, [], r0, _, Nat.zero_le _, rfl, ⟨Left.start _ _ _⟩, hr0, HR2, HO, ⟨List.length_replicate⟩, ⟨fun j p c hj _ => by simp at hj⟩, HG⟩
    case round =>
      obtain ⟨k, done, r, rows, hk, rfl, HL, hrl, HRd, HOk, HLEN, HD, HGk⟩ := hrel
      clear HR2 HO HG
      by_cases hkn : k < n
      · cases hp : many 1 4 r with
        | none =>
          have hcall := oZ 1 4 1 4 rfl rfl (by omega) (by omega) g r w0 wr HRd.out (below_grown HB.out HGk.out hg (Nat.le_refl _)) hg hp
          have HF := iC.mk (Left.fail HL.out hkn (LX hp))
          clear hp
          go_wp2_with (go_at_call 130; refine hcall.mono ?_; rintro e w2 ⟨rfl, hG⟩)
          exact ⟨rfl, jE HGk.out hG, .inr ⟨by rw [HN.out]; exact HF.out, rfl⟩⟩
        | some x =>
          obtain ⟨nk, r1⟩ := x
          have hcall := xQ 1 4 1 4 rfl rfl (by omega) (by omega) g r r1 nk w0 wr HRd.out (below_grown HB.out HGk.out hg (Nat.le_refl _)) hg hp
          obtain ⟨hl1, hl2⟩ := nD hp (by omega)
          have hnk : (nk : Int) ≤ 100000 := by omega
          have hr1 : (r1.length : Int) ≤ 100000 := by omega
          have hmk := uC (t := 23) (e := 3) Tryd.underlying23 info3 (by omega) nk hnk
          have HP := iC.mk hp
          clear hp hl1 hl2
          obtain ⟨wo, rfl⟩ : ∃ wo : World, wo = wr := ⟨_, rfl⟩
          obtain ⟨_, _, _, _, _, _, _, _, hadlt, _, _⟩ := IP HOk.out k hkn
          go_wp2_with (go_at_call 130; refine hcall.mono ?_; rintro e w2 ⟨rfl, hR, hG, hle⟩; clear hle; have HR1 := iC.mk hR; have HG1 := iC.mk hG; clear hR; obtain ⟨x0, y0, hrow, z0, z1, f0, f1, hbs, hbl, hset0, _⟩ := IP (Kd.R_below (kU HOk.out hG hlt) (iF (Below.refl _ _) (.cells (madeCells #[.int .i64 0] nk) 3))) k hkn; have HROW := iC.mk hrow; have HSET := iC.mk hset0; clear hrow hset0 hG z1 f1 hbl; rename_i junk_; clear junk_)
          clear hcall hmk z0 f0
          obtain ⟨hs3, hg3⟩ := HSET.out (.slice (some ⟨w2.heap.size, 0, none⟩) nk nk) rfl
          have hRI0 : RI (w2.alloc (.cells (madeCells #[.int .i64 0] nk) 3)) w.heap.size (.slice (some ⟨w2.heap.size, 0, none⟩) nk nk) (List.replicate nk 0) := V8 (by omega) (jE HGk.out HG1.out).size
          have hsz2 : wo.heap.size ≤ w2.heap.size := HG1.out.size
          have hRI := MH hRI0 rfl hg3 (by simp [Value.ownBlock]; omega)
          have hgW : w.grownBy ((w2.alloc (.cells (madeCells #[.int .i64 0] nk) 3)).setCell (ad.add (k * 2)) (.slice (some ⟨w2.heap.size, 0, none⟩) nk nk)) (some g) :=
            lL (jE (jE HGk.out HG1.out) (grown_below (iF (Below.refl _ _) _))) hg3 hbs
          have hRd3 := Rd.grown (Rd.grown HR1.out (grown_below (row := none) (iF (Below.refl _ _) (.cells (madeCells #[.int .i64 0] nk) 3))) (by simp)) hg3 (by intro e; injection e with e; omega)
          have hD3 : lS k139 ((w2.alloc (.cells (madeCells #[.int .i64 0] nk) 3)).setCell (ad.add (k * 2)) (.slice (some ⟨w2.heap.size, 0, none⟩) nk nk)) w.heap.size (fun b => b ≠ ad.block ∧ b < wo.heap.size) done (rows.set k [.slice (some ⟨w2.heap.size, 0, none⟩) nk nk, y0]) :=
            lS.set (HD.out.bound.move (fun b hP hb hl => by
              have h1 : b ≠ g := by omega
              have h2 := HG1.out.block b hl (fun e => h1 (by injection e))
              have h3 : (w2.alloc (.cells (madeCells #[.int .i64 0] nk) 3)).heap[b]? = w2.heap[b]? := Below.heap_alloc _ _ _ (by omega)
              exact (hg3.block b (by simp; omega) (fun e => hP.1 (by injection e))).trans (h3.trans h2))) (by rw [HL.out.1]; exact Nat.le_refl _) _
          have HKB := iC.mk (show w2.heap.size ≠ ad.block ∧ wo.heap.size ≤ w2.heap.size from ⟨by omega, hsz2⟩)
          have HS3 := iC.mk hs3
          have HRI3 := iC.mk hRI
          have HG3 := iC.mk hgW
          have HRd3 := iC.mk hRd3
          have HD3 := iC.mk hD3
          clear hs3 hg3 hRI0 hRI hgW hRd3 hD3 HSET HR1 HG1 hsz2 HROW
          obtain ⟨kad, hkad⟩ : ∃ kad : Addr, kad = ⟨w2.heap.size, 0, none⟩ := ⟨_, rfl⟩
          rw [show w2.heap.size = kad.block by rw [hkad]] at HKB
          rw [← hkad] at HS3 HRI3 HG3 HRd3 HD3 ⊢
          obtain ⟨W3, hW3⟩ : ∃ W3, W3 = (w2.alloc (.cells (madeCells #[.int .i64 0] nk) 3)).setCell (ad.add (k * 2)) (.slice (some kad) nk nk) := ⟨_, rfl⟩
          rw [← hW3] at HS3 HRI3 HG3 HRd3 HD3
          first | rw [← hW3] | (rw [show (w2.alloc (.cells (madeCells (Value.int .i64 0).cells (nk * 1)) 3)).setCell (ad.add (k * 2)) (.slice (some kad) nk nk) = W3 from by rw [hW3, Nat.mul_one]; rfl])
          clear hW3 hkad
          have hadI : (k : Int) < (n : Int) := by omega
          have HKN := iC.mk hkn
          go_loopw [27] (fun i wi => ∃ (j : Nat) (kd : List Int) (r2 : List UInt8), j ≤ nk ∧ i = .int .i64 j ∧ iC (Left (intP 4) nk j r1 r2 kd) ∧ (r2.length : Int) ≤ 100000 ∧ iC (Rd w0 wi g r2) ∧ iC (RI wi w.heap.size (.slice (some kad) nk nk) (kd ++ List.replicate (nk - j) 0)) ∧ iC (RW 139 wi w.heap.size (.slice (some ad) n n) (rows.set k [.slice (some kad) nk nk, y0])) ∧ iC (lS k139 wi w.heap.size (fun b => b ≠ ad.block ∧ b < wo.heap.size) done (rows.set k [.slice (some kad) nk nk, y0])) ∧ iC (w.grownBy wi (some g))) (fun i _ => nk - (intOf i).toNat)
          case atStart => exact ⟨0, [], r1, Nat.zero_le _, rfl, ⟨Left.start _ _ _⟩, hr1, HRd3, HRI3, HS3, HD3, HG3⟩
          case round =>
            obtain ⟨j, kd, r2, hj, rfl, HLk, hrl2, HRd, HRI, HOk, HD, HGi⟩ := hrel
            clear HRd3 HRI3 HS3 HD3 HG3
            obtain ⟨xx, yy, hrow, hz0, hz1, hf0, hf1, _, hbl2, _, hset1⟩ := IP HOk.out k hkn
            rw [zY _ _ _ (by rw [HLEN.out]; exact hkn)] at hrow
            injection hrow with hrow1 hrow2
            injection hrow2 with hrow2 _
            subst hrow1; subst hrow2
            by_cases hjn : j < nk
            · cases hp4 : intP 4 r2 with
              | none =>
                have HP4 := iC.mk hp4
                have HF := iC.mk (Left.fail HL.out hkn (LV HP.out (Left.fail HLk.out hjn hp4)))
                have Z0 := iC.mk hz0
                clear hp4 hset1 hz1 hf1 hz0
                go_wp2
                refine zT [30, 31, 32, 33, 34, 35, 36, 37, 38, 39] (fun i => [.slice (some ad) n n, .int .i64 (k : Int), .pointer (some (ad.add (k * 2))), .pointer (some (ad.add (k * 2))), .slice (some kad) nk nk, .int .i64 (j : Int), .pointer (some ⟨g, 0, none⟩), .int .u64 0, .int .i64 0, .pointer (some (kad.add j))].getD i undef) 7 (fun _ => False) (fun _ => False) [0, 1, 2, 3, 4, 5, 6, 7, 8, 9, 10] [0, 1, 2, 3, 4, 5, 6, 8, 9] (true, [([], []), ([], []), ([0, 1], [0, 1]), ([2], [2]), ([3], [3]), ([], []), ([], []), ([6], [6]), ([7], [7]), ([4, 5, 0, 1, 2, 3, 4, 5, 6, 7, 8], [4, 5]), ([9, 8, 7, 0, 1, 2, 3, 4, 5, 6, 7, 8], [8, 9])]) [0, 0, 3, 7, 15, 0, 0, 64, 192, 511, 1023] (by kernel_rfl) (by kernel_rfl) (by kernel_rfl) (by kernel_rfl) (by kernel_rfl) (by kernel_rfl) (by kernel_rfl) (by rfl) (by kernel_rfl) (by kernel_rfl) (by kernel_rfl) ?_ ?_ (by kernel_rfl) ?_ ?_
                · refine jW ?_ ?_
                  · intro a w' hok ⟨hel, hd, _⟩
                    have e3 : a.tmps[3]? = some (.slice (some ad) n n) := (hel 3 (by kernel_rfl)).trans (by rfl)
                    refine ⟨_, rfl, rfl, fun K hK => ?_⟩
                    refine jT (w1 := w') (v := .slice (some ad) n n) (by rfl) rfl ?_ hK
                    go_simp
                    (try simp only [iY, jL])
                    (try rfl)
                    (try (unfold Go.RowKit.wrap64; omega))
                  refine jW ?_ ?_
                  · intro a w' hok ⟨hel, hd, _⟩
                    have e4 : a.tmps[4]? = some (.int .i64 (k : Int)) := (hel 4 (by kernel_rfl)).trans (by rfl)
                    refine ⟨_, rfl, rfl, fun K hK => ?_⟩
                    refine jT (w1 := w') (v := .int .i64 (k : Int)) (by rfl) rfl ?_ hK
                    go_simp
                    (try simp only [iY, jL])
                    (try rfl)
                    (try (unfold Go.RowKit.wrap64; omega))
                  refine jW ?_ ?_
                  · intro a w' hok ⟨hel, hd, _⟩
                    have e30 : a.tmps[30]? = some (.slice (some ad) n n) := hd 0 (by kernel_rfl)
                    have e31 : a.tmps[31]? = some (.int .i64 (k : Int)) := hd 1 (by kernel_rfl)
                    refine ⟨_, rfl, rfl, fun K hK => ?_⟩
                    refine jT (w1 := w') (v := .pointer (some (ad.add (k * 2)))) (by rfl) rfl ?_ hK
                    go_simp
                    (try simp only [iY, jL])
                    (try rfl)
                    (try (unfold Go.RowKit.wrap64; omega))
                  refine jW ?_ ?_
                  · intro a w' hok ⟨hel, hd, _⟩
                    have e32 : a.tmps[32]? = some (.pointer (some (ad.add (k * 2)))) := hd 2 (by kernel_rfl)
                    refine ⟨_, rfl, rfl, fun K hK => ?_⟩
                    refine jT (w1 := w') (v := .pointer (some (ad.add (k * 2)))) (by rfl) rfl ?_ hK
                    go_simp
                    (try simp only [iY, jL])
                    (try rfl)
                    (try (unfold Go.RowKit.wrap64; omega))
                  refine jW ?_ ?_
                  · intro a w' hok ⟨hel, hd, _⟩
                    have e33 : a.tmps[33]? = some (.pointer (some (ad.add (k * 2)))) := hd 3 (by kernel_rfl)
                    have hz : w'.cell? (ad.add (k * 2)) = some (.slice (some kad) nk nk) := by (rcases hok with rfl | hf; exact Z0.out; exact hf.elim)
                    refine ⟨_, rfl, rfl, fun K hK => ?_⟩
                    refine jT (w1 := w') (v := .slice (some kad) nk nk) (by rfl) rfl ?_ hK
                    go_simp
                    (try simp only [iY, jL])
                    (try rfl)
                    (try (unfold Go.RowKit.wrap64; omega))
                  refine jW ?_ ?_
                  · intro a w' hok ⟨hel, hd, _⟩
                    have e5 : a.tmps[5]? = some (.int .i64 (j : Int)) := (hel 5 (by kernel_rfl)).trans (by rfl)
                    refine ⟨_, rfl, rfl, fun K hK => ?_⟩
                    refine jT (w1 := w') (v := .int .i64 (j : Int)) (by rfl) rfl ?_ hK
                    go_simp
                    (try simp only [iY, jL])
                    (try rfl)
                    (try (unfold Go.RowKit.wrap64; omega))
                  refine jW ?_ ?_
                  · intro a w' hok ⟨hel, hd, _⟩
                    have e0 : a.tmps[0]? = some (.pointer (some ⟨g, 0, none⟩)) := (hel 0 (by kernel_rfl)).trans (by rfl)
                    refine ⟨_, rfl, rfl, fun K hK => ?_⟩
                    refine jT (w1 := w') (v := .pointer (some ⟨g, 0, none⟩)) (by rfl) rfl ?_ hK
                    go_simp
                    (try simp only [iY, jL])
                    (try rfl)
                    (try (unfold Go.RowKit.wrap64; omega))
                  refine jW ?_ ?_
                  · intro a w' hok ⟨hel, hd, _⟩
                    have e37 : a.tmps[37]? = some (.int .u64 0) := hd 7 (by kernel_rfl)
                    refine ⟨_, rfl, rfl, fun K hK => ?_⟩
                    refine jT (w1 := w') (v := .int .i64 0) (by rfl) rfl ?_ hK
                    go_simp
                    (try simp only [iY, jL])
                    (try rfl)
                    (try (unfold Go.RowKit.wrap64; omega))
                  refine jW ?_ ?_
                  · intro a w' hok ⟨hel, hd, _⟩
                    have e34 : a.tmps[34]? = some (.slice (some kad) nk nk) := hd 4 (by kernel_rfl)
                    have e35 : a.tmps[35]? = some (.int .i64 (j : Int)) := hd 5 (by kernel_rfl)
                    refine ⟨_, rfl, rfl, fun K hK => ?_⟩
                    refine jT (w1 := w') (v := .pointer (some (kad.add j))) (by rfl) rfl ?_ hK
                    go_simp
                    (try simp only [iY, jL])
                    (try rfl)
                    (try (unfold Go.RowKit.wrap64; omega))
                  exact yV
                · intro a ⟨hel, hd, hdef⟩
                  have e36 : a.tmps[36]? = some (.pointer (some ⟨g, 0, none⟩)) := hd 6 (by kernel_rfl)
                  refine ⟨_, rfl, rfl, fun K hK => ?_⟩
                  refine VD Tryd.func119 (by kernel_rfl) rfl #[.pointer (some ⟨g, 0, none⟩), (Value.int IntKind.i64 4)] (by rfl) rfl (by first | (simp only [List.map_toArray, List.map_cons, List.map_nil, Act.eval, Array.getD_eq_getD_getElem?, Option.getD_some, e36]; done) | (simp only [List.map_toArray, List.map_cons, List.map_nil, Act.eval, Array.getD_eq_getD_getElem?, Option.getD_some, e36]; rfl)) ?_
                  refine (kE 4 4 rfl g r2 w0 wr.drew HRd.out (lN HP4.out)).mono ?_
                  rintro e_ w2_ ⟨rfl, hG⟩
                  exact ⟨_, rfl, hdef, jE HGi.out ⟨hG.os, hG.tape, hG.output, hG.size, hG.block⟩, .inr ⟨by rw [HN.out]; exact HF.out, rfl⟩⟩
                · intro a w' hA ⟨hel, hd, _⟩
                  exact hA.elim
                · intro w' hF
                  exact hF.elim
              | some x =>
                obtain ⟨x, r3⟩ := x
                obtain ⟨hs1, hx, hr3⟩ := nX hp4
                have hr3l := nY 4 _ _ _ hp4
                have HN1 := iC.mk (Left.next HLk.out hjn hp4)
                have hcall := mM 4 4 rfl (by omega) g r2 w0 wr.drew HRd.out (lG (below_grown HB.out HGi.out hg (Nat.le_refl _))) hs1
                have hsm := qE r2 4 (by omega)
                rw [← hr3] at hcall
                obtain ⟨m, hm1⟩ : ∃ m, m = numB (r2.take 4) := ⟨_, rfl⟩
                rw [← hm1] at hcall hsm hx
                subst hx
                have HCALL := iC.mk hcall
                have Z0 := iC.mk hz0
                have HBL2 := iC.mk hbl2
                clear hp4 hr3 hm1 hs1 hcall hset1 hz1 hf1 hz0
                go_wp2
                refine zT [30, 31, 32, 33, 34, 35, 36, 37, 38, 39] (fun i => [.slice (some ad) n n, .int .i64 (k : Int), .pointer (some (ad.add (k * 2))), .pointer (some (ad.add (k * 2))), .slice (some kad) nk nk, .int .i64 (j : Int), .pointer (some ⟨g, 0, none⟩), .int .u64 (m : Int), .int .i64 (m : Int), .pointer (some (kad.add j))].getD i undef) 7 (fun W => Rd w0 W g r3 ∧ wr.grownBy W (some g)) (fun W => ∃ W1, (Rd w0 W1 g r3 ∧ wr.grownBy W1 (some g)) ∧ W = W1.setCell (kad.add j) (.int .i64 (m : Int))) [0, 1, 2, 3, 4, 5, 6, 7, 8, 9, 10] [0, 1, 2, 3, 4, 5, 6, 8, 9] (true, [([], []), ([], []), ([0, 1], [0, 1]), ([2], [2]), ([3], [3]), ([], []), ([], []), ([6], [6]), ([7], [7]), ([4, 5, 0, 1, 2, 3, 4, 5, 6, 7, 8], [4, 5]), ([9, 8, 7, 0, 1, 2, 3, 4, 5, 6, 7, 8], [8, 9])]) [0, 0, 3, 7, 15, 0, 0, 64, 192, 511, 1023] (by kernel_rfl) (by kernel_rfl) (by kernel_rfl) (by kernel_rfl) (by kernel_rfl) (by kernel_rfl) (by kernel_rfl) (by rfl) (by kernel_rfl) (by kernel_rfl) (by kernel_rfl) ?_ ?_ (by kernel_rfl) ?_ ?_
                · refine jW ?_ ?_
                  · intro a w' hok ⟨hel, hd, _⟩
                    have e3 : a.tmps[3]? = some (.slice (some ad) n n) := (hel 3 (by kernel_rfl)).trans (by rfl)
                    refine ⟨_, rfl, rfl, fun K hK => ?_⟩
                    refine jT (w1 := w') (v := .slice (some ad) n n) (by rfl) rfl ?_ hK
                    go_simp
                    (try simp only [iY, jL])
                    (try rfl)
                    (try (unfold Go.RowKit.wrap64; omega))
                  refine jW ?_ ?_
                  · intro a w' hok ⟨hel, hd, _⟩
                    have e4 : a.tmps[4]? = some (.int .i64 (k : Int)) := (hel 4 (by kernel_rfl)).trans (by rfl)
                    refine ⟨_, rfl, rfl, fun K hK => ?_⟩
                    refine jT (w1 := w') (v := .int .i64 (k : Int)) (by rfl) rfl ?_ hK
                    go_simp
                    (try simp only [iY, jL])
                    (try rfl)
                    (try (unfold Go.RowKit.wrap64; omega))
                  refine jW ?_ ?_
                  · intro a w' hok ⟨hel, hd, _⟩
                    have e30 : a.tmps[30]? = some (.slice (some ad) n n) := hd 0 (by kernel_rfl)
                    have e31 : a.tmps[31]? = some (.int .i64 (k : Int)) := hd 1 (by kernel_rfl)
                    refine ⟨_, rfl, rfl, fun K hK => ?_⟩
                    refine jT (w1 := w') (v := .pointer (some (ad.add (k * 2)))) (by rfl) rfl ?_ hK
                    go_simp
                    (try simp only [iY, jL])
                    (try rfl)
                    (try (unfold Go.RowKit.wrap64; omega))
                  refine jW ?_ ?_
                  · intro a w' hok ⟨hel, hd, _⟩
                    have e32 : a.tmps[32]? = some (.pointer (some (ad.add (k * 2)))) := hd 2 (by kernel_rfl)
                    refine ⟨_, rfl, rfl, fun K hK => ?_⟩
                    refine jT (w1 := w') (v := .pointer (some (ad.add (k * 2)))) (by rfl) rfl ?_ hK
                    go_simp
                    (try simp only [iY, jL])
                    (try rfl)
                    (try (unfold Go.RowKit.wrap64; omega))
                  refine jW ?_ ?_
                  · intro a w' hok ⟨hel, hd, _⟩
                    have e33 : a.tmps[33]? = some (.pointer (some (ad.add (k * 2)))) := hd 3 (by kernel_rfl)
                    have hz : w'.cell? (ad.add (k * 2)) = some (.slice (some kad) nk nk) := by (rcases hok with rfl | hf; exact Z0.out; exact hf.2.cell Z0.out (by rw [show (ad.add (k * 2)).block = ad.block from by (unfold Addr.add; split <;> rfl)]; intro e; injection e with e; omega))
                    refine ⟨_, rfl, rfl, fun K hK => ?_⟩
                    refine jT (w1 := w') (v := .slice (some kad) nk nk) (by rfl) rfl ?_ hK
                    go_simp
                    (try simp only [iY, jL])
                    (try rfl)
                    (try (unfold Go.RowKit.wrap64; omega))
                  refine jW ?_ ?_
                  · intro a w' hok ⟨hel, hd, _⟩
                    have e5 : a.tmps[5]? = some (.int .i64 (j : Int)) := (hel 5 (by kernel_rfl)).trans (by rfl)
                    refine ⟨_, rfl, rfl, fun K hK => ?_⟩
                    refine jT (w1 := w') (v := .int .i64 (j : Int)) (by rfl) rfl ?_ hK
                    go_simp
                    (try simp only [iY, jL])
                    (try rfl)
                    (try (unfold Go.RowKit.wrap64; omega))
                  refine jW ?_ ?_
                  · intro a w' hok ⟨hel, hd, _⟩
                    have e0 : a.tmps[0]? = some (.pointer (some ⟨g, 0, none⟩)) := (hel 0 (by kernel_rfl)).trans (by rfl)
                    refine ⟨_, rfl, rfl, fun K hK => ?_⟩
                    refine jT (w1 := w') (v := .pointer (some ⟨g, 0, none⟩)) (by rfl) rfl ?_ hK
                    go_simp
                    (try simp only [iY, jL])
                    (try rfl)
                    (try (unfold Go.RowKit.wrap64; omega))
                  refine jW ?_ ?_
                  · intro a w' hok ⟨hel, hd, _⟩
                    have e37 : a.tmps[37]? = some (.int .u64 (m : Int)) := hd 7 (by kernel_rfl)
                    refine ⟨_, rfl, rfl, fun K hK => ?_⟩
                    refine jT (w1 := w') (v := .int .i64 (m : Int)) (by rfl) rfl ?_ hK
                    go_simp
                    (try simp only [iY, jL])
                    (try rfl)
                    (try (unfold Go.RowKit.wrap64; omega))
                  refine jW ?_ ?_
                  · intro a w' hok ⟨hel, hd, _⟩
                    have e34 : a.tmps[34]? = some (.slice (some kad) nk nk) := hd 4 (by kernel_rfl)
                    have e35 : a.tmps[35]? = some (.int .i64 (j : Int)) := hd 5 (by kernel_rfl)
                    refine ⟨_, rfl, rfl, fun K hK => ?_⟩
                    refine jT (w1 := w') (v := .pointer (some (kad.add j))) (by rfl) rfl ?_ hK
                    go_simp
                    (try simp only [iY, jL])
                    (try rfl)
                    (try (unfold Go.RowKit.wrap64; omega))
                  exact yV
                · intro a ⟨hel, hd, hdef⟩
                  have e36 : a.tmps[36]? = some (.pointer (some ⟨g, 0, none⟩)) := hd 6 (by kernel_rfl)
                  refine ⟨_, rfl, rfl, fun K hK => ?_⟩
                  refine xJ Tryd.func119 (by kernel_rfl) rfl #[.pointer (some ⟨g, 0, none⟩), (Value.int IntKind.i64 4)] (by rfl) rfl rfl (by first | (simp only [List.map_toArray, List.map_cons, List.map_nil, Act.eval, Array.getD_eq_getD_getElem?, Option.getD_some, e36]; done) | (simp only [List.map_toArray, List.map_cons, List.map_nil, Act.eval, Array.getD_eq_getD_getElem?, Option.getD_some, e36]; rfl)) ?_
                  refine HCALL.out.mono ?_
                  rintro e_ w2_ ⟨rfl, hR, hG⟩
                  exact ⟨_, rfl, hK _ ⟨hR, ⟨hG.os, hG.tape, hG.output, hG.size, hG.block⟩⟩⟩
                · intro a w' hA ⟨hel, hd, _⟩
                  have e39 : a.tmps[39]? = some (.pointer (some (kad.add j))) := hd 9 (by kernel_rfl)
                  have e38 : a.tmps[38]? = some (.int .i64 (m : Int)) := hd 8 (by kernel_rfl)
                  obtain ⟨⟨old, ho⟩, hf, _⟩ := VW (kU HRI.out hA.2 hlt) j hjn (m : Int)
                  refine ⟨_, rfl, rfl, fun K hK => ?_⟩
                  refine OZ (w1 := w'.setCell (kad.add j) (.int .i64 (m : Int))) (by rfl) rfl ?_ (hK _ ?_)
                  · go_simp
                    (try rfl)
                  · exact ⟨w', hA, rfl⟩
                · intro w' hF
                  rw [show entries [30, 31, 32, 33, 34, 35, 36, 37, 38, 39] (fun i => [.slice (some ad) n n, .int .i64 (k : Int), .pointer (some (ad.add (k * 2))), .pointer (some (ad.add (k * 2))), .slice (some kad) nk nk, .int .i64 (j : Int), .pointer (some ⟨g, 0, none⟩), .int .u64 (m : Int), .int .i64 (m : Int), .pointer (some (kad.add j))].getD i undef) = [(0, 30, .slice (some ad) n n), (1, 31, .int .i64 (k : Int)), (2, 32, .pointer (some (ad.add (k * 2)))), (3, 33, .pointer (some (ad.add (k * 2)))), (4, 34, .slice (some kad) nk nk), (5, 35, .int .i64 (j : Int)), (6, 36, .pointer (some ⟨g, 0, none⟩)), (7, 37, .int .u64 (m : Int)), (8, 38, .int .i64 (m : Int)), (9, 39, .pointer (some (kad.add j)))] from rfl]
                  simp only [jZ, if_true, Act.put, List.setIfInBounds_toArray, List.set_cons_zero, List.set_cons_succ, List.map_toArray, List.map_cons, List.map_nil]
                  obtain ⟨W4, ⟨hR4, hG4⟩, rfl⟩ := hF
                  obtain ⟨_, _, hbk, hset, hgr⟩ := VW (kU HRI.out hG4 hlt) j hjn (m : Int)
                  have HSI := iC.mk hset
                  have HGI := iC.mk (lL (jE HGi.out hG4) hgr hbk)
                  have HRR := iC.mk (Rd.grown hR4 hgr (by intro e; injection e with e; omega))
                  have HOI := iC.mk (MH (kU HOk.out hG4 hlt) rfl hgr (by simp [Value.ownBlock]; exact HKB.out.1))
                  have HDI := iC.mk (lS.other (lS.grown HD.out hG4 hlt) hgr (fun b hb e => by have := HKB.out.2; omega))
                  clear hset hgr hR4 hG4 hbk
                  go_wp2
                  go_roundw
                  case rel => exact ⟨j + 1, kd ++ [(m : Int)], r3, by omega, by go_num, HN1, by omega, HRR, ⟨by rw [← JY _ _ _ _ _ HLk.out.1 hjn]; exact HSI.out⟩, HOI, HDI, HGI⟩
                  case measure => simp [intOf]; omega
            · obtain rfl : j = nk := by omega
              have hRI := HRI.out
              rw [Nat.sub_self, List.replicate_zero, List.append_nil] at hRI
              have hL4 := Left.done HLk.out
              cases hp8 : number 8 r2 with
              | none =>
                have hcall := kE 8 8 rfl g r2 w0 wr HRd.out (rP hp8)
                have HF := iC.mk (Left.fail HL.out hkn (L9 HP.out hL4 hp8))
                clear hp8 hL4 hset1 hRI
                go_wp2_with (go_at_call 119; refine hcall.mono ?_; rintro e w4 ⟨rfl, hG⟩)
                exact ⟨rfl, jE HGi.out hG, .inr ⟨by rw [HN.out]; exact HF.out, rfl⟩⟩
              | some x =>
                obtain ⟨m, r3⟩ := x
                obtain ⟨hs8, hm8, hr8⟩ := mZ hp8
                have HN1 := iC.mk (Left.next HL.out hkn (NU HP.out hL4 hp8))
                have hcall := mM 8 8 rfl (by omega) g r2 w0 wr HRd.out (below_grown HB.out HGi.out hg (Nat.le_refl _)) hs8
                rw [← hm8, ← hr8] at hcall
                have hmb : m < 18446744073709551616 := by rw [hm8]; exact WU _
                have hw64 := UH m hmb
                have hr3l : (r3.length : Int) ≤ 100000 := by rw [hr8, List.length_drop]; omega
                have HRIx := iC.mk hRI
                have HMB := iC.mk hmb
                have hmI : (m : Int) < 18446744073709551616 := by omega
                clear hp8 hL4 hset1 hRI hm8 hr8 hs8 hmb hz0 hz1 hf0 hf1 hbl2
                go_wp2_with (go_at_call 119; refine hcall.mono ?_; rintro e w4 ⟨rfl, hR, hG⟩; obtain ⟨xx, yy, hrow, hz0, hz1, hf0, hf1, _, hbl2, _, hset1⟩ := IP (kU HOk.out hG hlt) k hkn; rw [zY _ _ _ (by rw [HLEN.out]; exact hkn)] at hrow; injection hrow with hrow1 hrow2; subst hrow1; clear hrow2; have HSET1 := iC.mk hset1; have HR4 := iC.mk hR; have HG4 := iC.mk hG; clear hset1 hR hG hz0 hf0)
                obtain ⟨hsV, hgV⟩ := HSET1.out (.int .i64 (s64 m)) rfl
                rw [List.set_set] at hsV
                have HGV := iC.mk (lL (jE HGi.out HG4.out) hgV hbs)
                have HRV := iC.mk (Rd.grown HR4.out hgV (by intro e; injection e with e; omega))
                have hRIk := Kd.R_tight rfl (MH (kU HRIx.out HG4.out hlt) rfl hgV (by simp [Value.ownBlock]; intro e; exact HKB.out.1 e.symm))
                have hDk := (lS.other (lS.grown HD.out HG4.out hlt) hgV (fun b hb => hb.1)).mono (fun b hb => hb.1)
                have hDk' := hDk.set (k := k) (by rw [HL.out.1]; exact Nat.le_refl _) [.slice (some kad) j j, .int .i64 (s64 m)]
                rw [List.set_set] at hDk'
                have hDone := hDk'.snoc (x := ⟨kd, s64 m⟩) (c := [.slice (some kad) j j, .int .i64 (s64 m)]) (by rw [HL.out.1]; exact List.getElem?_set_self (by rw [HLEN.out]; exact hkn)) (IC _ _ _ ⟨kd, s64 m⟩ (Kd.R_mono hRIk (fun b hb => by
                  have hb' : kad.block = b := by simpa [Value.ownBlock] using hb.symm
                  rw [← hb']; exact HKB.out.1)))
                have HDONE := iC.mk hDone
                have HSV := iC.mk hsV
                have HLEN2 := iC.mk (show (rows.set k [.slice (some kad) j j, .int .i64 (s64 m)]).length = n from by rw [List.length_set]; exact HLEN.out)
                clear hsV hgV hRIk hDk hDk' hDone hcall
                go_roundw
                case rel => exact ⟨k + 1, done ++ [⟨kd, s64 m⟩], r3, _, by omega, by go_num, HN1, hr3l, HRV, HSV, HLEN2, HDONE, HGV⟩
                case measure => simp [intOf]; omega
      · obtain rfl : k = n := by omega
        go_wp2
        go_ret
        refine ⟨HGk.out, .inl ⟨done, r, _, by rw [HN.out]; exact Left.done HL.out, rfl, ?_, HRd.out⟩⟩
        refine IG rfl HOk.out (by rw [HL.out.1, HLEN.out]) (fun _ _ => trivial) (fun j p c hj hc => ?_)
        exact k139.M_mono (fun b hb => ⟨trivial, by simp [Value.ownBlock]; exact hb⟩) (HD.out j p c hj hc)
end Go.Proofs.YtgfkgppomaapiaaDoor.K
end

section
namespace Go.Proofs.YtgfkgppomaapiaaDoor.K
open RowKit YtgfkgppomaapiaaDoorW.PrintWords YtgfkgppomaapiaaDoorW.PrintLast YtgfkgppomaapiaaDoorW.PrintMore My
theorem JE {r : List UInt8} (h : intP 4 r = none) : qH r = none := by unfold qH; rw [h]; rfl
theorem J8 {r r1 : List UInt8} {x : Int} (h : intP 4 r = some (x, r1)) (h1 : oG r1 = none) : qH r = none := by unfold qH; rw [h]; simp only [Option.bind_some]; rw [h1]; rfl
theorem L8 {r r1 r2 : List UInt8} {x : Int} {fs : List jO} (h : intP 4 r = some (x, r1)) (h1 : oG r1 = some (fs, r2)) : qH r = some (⟨x, fs⟩, r2) := by unfold qH; rw [h]; simp only [Option.bind_some]; rw [h1]; rfl
theorem rZ : Short oG := fun l x r h => by
  unfold oG at h
  obtain ⟨⟨n, r1⟩, h1, h⟩ := Option.bind_eq_some_iff.1 h
  have a := (nD h1 (by omega)).1
  have b := oN O4 n _ _ _ h
  simp only at a b
  omega
set_option maxRecDepth 20000 in
set_option maxHeartbeats 8000000 in
theorem vN (g : Nat) (l : List UInt8) (w0 w : World) (h : Rd w0 w g l) (hb : Below w0.heap.size w0 w) (hg : w0.heap.size ≤ g) (hm : (l.length : Int) ≤ 100000) :
    Calls Tryd.prog 123 #[.pointer (some ⟨g, 0, none⟩)] w (PP (nG l) (fun xs v w' => Kd.R k86 86 w' w.heap.size (fun _ => True) v xs) w0 w g) := by
  have HR := iC.mk h
  have HB := iC.mk hb
  have hlt := h.lt
  clear h hb
  cases hmy : many 4 8 l with
  | none =>
    have hn : nG l = none := by unfold nG; rw [hmy]; rfl
    have hcall := oZ 4 8 4 8 rfl rfl (by omega) (by omega) g l w0 w HR.out HB.out hg hmy
    have HN := iC.mk hn
    clear hmy hn
    go_enter Tryd.func123, Tryd.ntmps123
    go_wp2_with (go_at_call 130; refine hcall.mono ?_; rintro e w1 ⟨rfl, hG⟩)
    exact ⟨rfl, hG, .inr ⟨HN.out, rfl⟩⟩
  | some x =>
    obtain ⟨n, r0⟩ := x
    have hn : nG l = repP qH n r0 := by unfold nG; rw [hmy]; rfl
    have hcall := xQ 4 8 4 8 rfl rfl (by omega) (by omega) g l r0 n w0 w HR.out HB.out hg hmy
    have HN := iC.mk hn
    obtain ⟨hl1, hl2⟩ := nD hmy (by omega)
    have hn1 : (n : Int) ≤ 100000 := by omega
    have hr0 : (r0.length : Int) ≤ 100000 := by omega
    have hmk := uC (t := 28) (e := 86) Tryd.underlying28 VC (by omega) n hn1
    clear hmy hn hl1 hl2
    go_enter Tryd.func123, Tryd.ntmps123
    go_wp2_with (go_at_call 130; refine hcall.mono ?_; rintro e w1 ⟨rfl, hR, hG, hle⟩; clear hle; have HR1 := iC.mk hR; have HG1 := iC.mk hG; clear hR hG)
    have HO := iC.mk (QE (e := 86) (W := w1) (n := n) (base := w.heap.size) (x := .int .u32 0) (y := .slice none 0 0) rfl rfl (by omega) HG1.out.size)
    have HG := iC.mk (jE HG1.out (grown_below (iF (Below.refl _ _) (.cells (madeCells #[.int .u32 0, .slice none 0 0] (n * 2)) 86))))
    have HR2 := iC.mk (Rd.grown HR1.out (grown_below (row := none) (iF (Below.refl _ _) (.cells (madeCells #[.int .u32 0, .slice none 0 0] (n * 2)) 86))) (by simp))
    clear HR1 HG1 hcall hmk
    obtain ⟨ad, had⟩ : ∃ ad : Addr, ad = ⟨w1.heap.size, 0, none⟩ := ⟨_, rfl⟩
    rw [← had] at HO ⊢
    obtain ⟨W2, hW⟩ : ∃ W2, W2 = w1.alloc (.cells (madeCells #[.int .u32 0, .slice none 0 0] (n * 2)) 86) := ⟨_, rfl⟩
    rw [← hW] at HO HG HR2
    first | rw [← hW] | (rw [show w1.alloc (.cells (madeCells (Value.agg #[.int .u32 0, .slice none 0 0]).cells (n * 2)) 86) = W2 from hW.symm])
    clear hW had
    go_loopw [10] (fun i wr => ∃ (k : Nat) (done : List jJ) (r : List UInt8) (rows : List (List Value)), k ≤ n ∧ i = .int .i64 k ∧ iC (Left qH n k r0 r done) ∧ (r.length : Int) ≤ 100000 ∧ iC (Rd w0 wr g r) ∧ iC (RW 86 wr w.heap.size (.slice (some ad) n n) rows) ∧ iC (rows.length = n) ∧ iC (lS k86 wr w.heap.size (fun b => b ≠ ad.block) done rows) ∧ iC (w.grownBy wr (some g))) (fun i _ => n - (intOf i).toNat)
    case atStart => exact ⟨0, [], r0, _, Nat.zero_le _, rfl, ⟨Left.start _ _ _⟩, hr0, HR2, HO, ⟨List.length_replicate⟩, ⟨fun j p c hj _ => by simp at hj⟩, HG⟩
    case round =>
      obtain ⟨k, done, r, rows, hk, rfl, HL, hrl, HRd, HOk, HLEN, HD, HGk⟩ := hrel
      clear HR2 HO HG
      by_cases hkn : k < n
      · cases hp : intP 4 r with
        | none =>
          have hcall := kE 4 4 rfl g r w0 wr HRd.out (lN hp)
          have HF := iC.mk (Left.fail HL.out hkn (JE hp))
          clear hp
          go_wp2_with (go_at_call 119; refine hcall.mono ?_; rintro e w2 ⟨rfl, hG⟩)
          exact ⟨rfl, jE HGk.out hG, .inr ⟨by rw [HN.out]; exact HF.out, rfl⟩⟩
        | some x =>
          obtain ⟨x, r1⟩ := x
          obtain ⟨hs1, hx, hr1⟩ := nX hp
          have hr1l := nY 4 _ _ _ hp
          have hr1I : (r1.length : Int) ≤ 100000 := by omega
          have hcall := mM 4 4 rfl (by omega) g r w0 wr HRd.out (below_grown HB.out HGk.out hg (Nat.le_refl _)) hs1
          have hsm := qE r 4 (by omega)
          rw [← hr1] at hcall
          obtain ⟨m, hm1⟩ : ∃ m, m = numB (r.take 4) := ⟨_, rfl⟩
          rw [← hm1] at hcall hsm hx
          subst hx
          have HP := iC.mk hp
          clear hr1 hm1 hs1 hp hr1l
          go_wp2_with fail
          refine hcall.mono ?_
          rintro e w2 ⟨rfl, hR, hG⟩
          obtain ⟨x0, y0, hrow, z0, z1, f0, f1, hbs, hbl, hset0, _⟩ := IP (kU HOk.out hG hlt) k hkn
          obtain ⟨hs0, hg0⟩ := hset0 (.int .u32 (m : Int)) rfl
          have HGR := iC.mk (lL (jE HGk.out hG) hg0 hbs)
          have HRR := iC.mk (Rd.grown hR hg0 (by (intro e; injection e with e; omega)))
          have HS0 := iC.mk hs0
          have HD0 := iC.mk ((lS.other (lS.grown HD.out hG hlt) hg0 (fun b hb => hb)).set (k := k) (by rw [HL.out.1]; exact Nat.le_refl _) [.int .u32 (m : Int), y0])
          clear hset0 hs0 hg0 hR hG hrow z1 f1 hcall
          go_wp2_with fail
          refine (vI g r1 w0 _ HRR.out (below_grown HB.out HGR.out hg (Nat.le_refl _)) hg hr1I).mono ?_
          intro e w3 hpp
          cases hp2 : oG r1 with
          | none =>
            obtain ⟨rfl, hG⟩ := hpp.short hp2
            have HF := iC.mk (Left.fail HL.out hkn (J8 HP.out hp2))
            clear hp2 hpp
            go_wp2
            exact ⟨rfl, jE HGR.out hG, .inr ⟨by rw [HN.out]; exact HF.out, rfl⟩⟩
          | some y =>
            obtain ⟨fs, r2⟩ := y
            obtain ⟨v, rfl, hv, hR, hG⟩ := hpp.ok hp2
            have HN1 := iC.mk (Left.next HL.out hkn (L8 HP.out hp2))
            have hr2l := rZ _ _ _ hp2
            have hr2I : (r2.length : Int) ≤ 100000 := by omega
            obtain ⟨x1, y1, hrow, z0', z1, f0', f1, hbs1, hbl1, _, hset1⟩ := IP (kU HS0.out hG hlt) k hkn
            rw [zY _ _ _ (by rw [HLEN.out]; exact hkn)] at hrow
            injection hrow with hrow1 hrow2
            subst hrow1
            obtain ⟨Av, cv, rfl⟩ := Kd.R_slice hv
            obtain ⟨hs1, hg1⟩ := hset1 (.slice Av fs.length cv) rfl
            rw [List.set_set] at hs1
            have hvb := Kd.R_lower (Kd.R_mono (Kd.R_bound hv) (ok' := fun b => b ≠ ad.block) (fun b hb => by have := hb.2.1; simp at this; omega)) (HGR.out.size)
            have hvb1 := Kd.R_grown hvb hg1 (fun b hb e => hb (by injection e))
            have hDk := (lS.other (lS.grown HD0.out hG hlt) hg1 (fun b hb => hb)).set (k := k) (by rw [HL.out.1]; exact Nat.le_refl _) [.int .u32 (m : Int), .slice Av fs.length cv]
            rw [List.set_set] at hDk
            have hDone := hDk.snoc (x := ⟨(m : Int), fs⟩) (c := [.int .u32 (m : Int), .slice Av fs.length cv]) (by rw [HL.out.1]; exact List.getElem?_set_self (by rw [HLEN.out]; exact hkn)) (PK _ _ _ ⟨(m : Int), fs⟩ hvb1)
            have HDONE := iC.mk hDone
            have HSV := iC.mk hs1
            have HGV := iC.mk (lL (jE HGR.out hG) hg1 hbs1)
            have HRV := iC.mk (Rd.grown hR hg1 (by (intro e; injection e with e; omega)))
            have HLEN2 := iC.mk (show (rows.set k [.int .u32 (m : Int), .slice Av fs.length cv]).length = n from by rw [List.length_set]; exact HLEN.out)
            clear hset1 hs1 hg1 hR hG hrow2 z0 f0 z0' f0' hv hvb hvb1 hDk hDone hpp hp2 hr2l
            go_wp2
            go_roundw
            case rel => exact ⟨k + 1, done ++ [⟨(m : Int), fs⟩], r2, _, by omega, by go_num, HN1, hr2I, HRV, HSV, HLEN2, HDONE, HGV⟩
            case measure => simp [intOf]; omega
      · obtain rfl : k = n := by omega
        go_wp2
        go_ret
        refine ⟨HGk.out, .inl ⟨done, r, _, by rw [HN.out]; exact Left.done HL.out, rfl, ?_, HRd.out⟩⟩
        refine IG rfl HOk.out (by rw [HL.out.1, HLEN.out]) (fun _ _ => trivial) (fun j p c hj hc => ?_)
        exact k86.M_mono (fun b hb => ⟨trivial, by simp [Value.ownBlock]; exact hb⟩) (HD.out j p c hj hc)
end Go.Proofs.YtgfkgppomaapiaaDoor.K
end

section
namespace Go.Proofs.YtgfkgppomaapiaaDoor.K
open RowKit YtgfkgppomaapiaaDoorW.PrintWords YtgfkgppomaapiaaDoorW.PrintLast YtgfkgppomaapiaaDoorW.PrintMore My
def LC (b : Bool) (w : World) (e : Ending) (w' : World) : Prop := ∃ r : Int, e = .returned (.int .i64 r) ∧ decide (0 ≤ r) = b ∧ Below w.heap.size w w'
theorem any_take_succ {α : Type} (p : α → Bool) (z : α) (l : List α) (k : Nat) (h : k < l.length) : (l.take (k + 1)).any p = ((l.take k).any p || p (l.getD k z)) := by
  rw [lW z l k h, List.any_append]
  simp
theorem JU {α : Type} (p : α → Bool) (z : α) (l : List α) (k : Nat) (h : k < l.length) (hp : p (l.getD k z) = true) : l.any p = true := by
  rw [List.any_eq_true]
  refine ⟨l.getD k z, ?_, hp⟩
  rw [List.getD_eq_getElem?_getD, List.getElem?_eq_getElem h]
  exact List.getElem_mem h
theorem IM {α : Type} (p : α → Bool) (l : List α) (h : (l.take l.length).any p = false) : l.any p = false := by rwa [List.take_length] at h
def badV (v : Int) : Bool := decide (v < 0) || decide (9999 < v)
set_option maxHeartbeats 400000 in
theorem MX (v : Int) (w : World) : Calls Tryd.prog 118 #[.int .i64 v] w fun e w' => e = .returned (.bool (badV v)) ∧ w = w' := by
  by_cases h0 : v < 0
  · have e : badV v = true := by unfold badV; rw [decide_eq_true h0]; rfl
    rw [e]
    clear e
    go_enter Tryd.func118, Tryd.ntmps118
    go_wp2
    go_ret
    exact ⟨rfl, rfl⟩
  · by_cases h1 : 9999 < v
    · have e : badV v = true := by unfold badV; rw [decide_eq_true h1]; simp
      rw [e]
      clear e
      go_enter Tryd.func118, Tryd.ntmps118
      go_wp2
      go_ret
      exact ⟨rfl, rfl⟩
    · have e : badV v = false := by unfold badV; rw [decide_eq_false h0, decide_eq_false h1]; rfl
      rw [e]
      clear e
      go_enter Tryd.func118, Tryd.ntmps118
      go_wp2
      go_ret
      exact ⟨rfl, rfl⟩
set_option maxHeartbeats 1000000 in
theorem NG (A : Option Addr) (c : Nat) (l : List Int) (w : World) (hr : Kd.C (Kd.int .i64) w A l.length l) :
    Calls Tryd.prog 129 #[.slice A l.length c, .func (.func 118) #[] #[]] w (LC (l.any badV) w) := by
  have hm := lC hr
  have HR := iC.mk hr
  clear hr
  go_enter Tryd.func129, Tryd.ntmps129
  go_wp2
  go_loopg [5, 8] l.length (fun gg _ s8 wr => ∃ k : Nat, k ≤ l.length ∧ l.length - k ≤ gg ∧ s8 = .int .i64 k ∧ iC (w = wr) ∧ iC ((l.take k).any badV = false))
  case atStart => exact ⟨0, Nat.zero_le _, by omega, rfl, ⟨rfl⟩, ⟨rfl⟩⟩
  case round =>
    obtain ⟨k, hk, hg, rfl, HW, HA⟩ := hrel
    obtain rfl := HW.out
    by_cases hlt : k < l.length
    · obtain ⟨ad, rfl, hx⟩ := Kd.at_int HR.out (k : Int) (by omega) (by omega)
      have hsn := any_take_succ badV 0 l k hlt
      have hgd : rd l (k : Int) = l.getD k 0 := by unfold rd; rw [Int.toNat_natCast]
      rw [hgd, Int.toNat_natCast] at hx
      clear hgd
      obtain ⟨v, hv⟩ : ∃ v, v = l.getD k 0 := ⟨_, rfl⟩
      rw [← hv] at hx hsn
      cases hq : badV v with
      | true =>
        have HH := iC.mk (JU badV 0 l k hlt (by rw [← hv]; exact hq))
        have hcall := MX v w
        rw [hq] at hcall
        clear hv hsn hq
        go_wp2_with (go_at_call 118; refine hcall.mono ?_; rintro e w' ⟨rfl, rfl⟩)
        go_ret
        exact ⟨k, rfl, by rw [HH.out]; simp, Below.refl _ _⟩
      | false =>
        have HN := iC.mk (show (l.take (k + 1)).any badV = false by rw [hsn, HA.out, hq]; rfl)
        have hcall := MX v w
        rw [hq] at hcall
        clear hv hsn hq
        go_wp2_with (go_at_call 118; refine hcall.mono ?_; rintro e w' ⟨rfl, rfl⟩)
        go_roundg (l.length - (k + 1))
        case measure => omega
        case rel => exact ⟨k + 1, by omega, by omega, by go_num, ⟨rfl⟩, HN⟩
    · have : k = l.length := by omega
      subst this
      go_wp2
      go_ret
      exact ⟨-1, rfl, by rw [IM _ _ HA.out]; rfl, Below.refl _ _⟩
set_option maxHeartbeats 400000 in
theorem NT (A : Option Addr) (c : Nat) (l : List Int) (w : World) (hr : Kd.C (Kd.int .i64) w A l.length l) :
    Calls Tryd.prog 117 #[.slice A l.length c, .func (.func 118) #[] #[]] w fun e w' => e = .returned (.bool (l.any badV)) ∧ Below w.heap.size w w' := by
  have hcall := NG A c l w hr
  clear hr
  generalize l.any badV = b at hcall
  go_enter Tryd.func117, Tryd.ntmps117
  go_wp2_with (go_at_call 129; refine hcall.mono ?_; rintro e w' ⟨r, rfl, hr, hb⟩; have HR := iC.mk hr; clear hr)
  go_ret
  exact ⟨by rw [← HR.out]; rfl, hb⟩
theorem U0 (f : jO) : nV f = (decide ((f.f0.length : Int) ≤ 4) && !f.f0.any badV) := by
  unfold nV
  congr 1
  · rw [decide_eq_decide]; omega
  · rw [List.any_eq_not_all_not, Bool.not_not]
    congr 1
    funext v
    unfold badV
    rw [Bool.eq_iff_iff]
    simp
set_option maxHeartbeats 1000000 in
theorem U9 (A : Option Addr) (c : Nat) (f : jO) (w : World) (hr : Kd.C (Kd.int .i64) w A f.f0.length f.f0) :
    Calls Tryd.prog 94 #[.agg #[.slice A f.f0.length c, .int .i64 f.f1]] w fun e w' => e = .returned (.bool (nV f)) ∧ Below w.heap.size w w' := by
  have hcall := NT A c f.f0 (w.alloc (.cells #[.slice A f.f0.length c, .int .i64 f.f1] 139)) (Kd.C_below hr (iF (Below.refl _ _) _))
  clear hr
  rw [U0]
  by_cases h4 : (f.f0.length : Int) ≤ 4
  · rw [decide_eq_true h4, Bool.true_and]
    generalize f.f0.any badV = b at hcall
    go_enter Tryd.func94, Tryd.ntmps94
    go_wp2_with (go_at_call 117; refine hcall.mono ?_; rintro e w' ⟨rfl, hb⟩)
    go_ret
    exact ⟨rfl, iI (iF (Below.refl _ _) _) hb⟩
  · rw [decide_eq_false h4, Bool.false_and]
    clear hcall
    go_enter Tryd.func94, Tryd.ntmps94
    go_wp2
    go_ret
    exact ⟨rfl, iF (Below.refl _ _) _⟩
set_option maxHeartbeats 400000 in
theorem MK (A : Option Addr) (c : Nat) (f : jO) (w : World) (hr : Kd.C (Kd.int .i64) w A f.f0.length f.f0) :
    Calls Tryd.prog 93 #[.agg #[.slice A f.f0.length c, .int .i64 f.f1]] w fun e w' => e = .returned (.bool (!nV f)) ∧ Below w.heap.size w w' := by
  have hcall := U9 A c f (w.alloc (.cells #[.slice A f.f0.length c, .int .i64 f.f1] 139)) (Kd.C_below hr (iF (Below.refl _ _) _))
  clear hr
  generalize nV f = b at hcall
  go_enter Tryd.func93, Tryd.ntmps93
  go_wp2_with (go_at_call 94; refine hcall.mono ?_; rintro e w' ⟨rfl, hb⟩)
  go_ret
  exact ⟨rfl, iI (iF (Below.refl _ _) _) hb⟩
def TK : jO := z139
set_option maxHeartbeats 1000000 in
theorem MJ (A : Option Addr) (c : Nat) (l : List jO) (w : World) (hr : Kd.C k139 w A l.length l) :
    Calls Tryd.prog 116 #[.slice A l.length c, .func (.func 93) #[] #[]] w (LC (l.any fun f => !nV f) w) := by
  have hm := lC hr
  have HR := iC.mk hr
  clear hr
  go_enter Tryd.func116, Tryd.ntmps116
  go_wp2
  go_loopg [5, 8] l.length (fun gg _ s8 wr => ∃ k : Nat, k ≤ l.length ∧ l.length - k ≤ gg ∧ s8 = .int .i64 k ∧ iC (Below w.heap.size w wr) ∧ iC ((l.take k).any (fun f => !nV f) = false))
  case atStart => exact ⟨0, Nat.zero_le _, by omega, rfl, ⟨Below.refl _ _⟩, ⟨rfl⟩⟩
  case round =>
    obtain ⟨k, hk, hg, rfl, HW, HA⟩ := hrel
    by_cases hlt : k < l.length
    · obtain ⟨ad, A1, c1, rfl, hx0, hx1, hl1, hC1⟩ := kK (Kd.C_below HR.out HW.out) (k : Int) (by omega) (by omega)
      have hsn := any_take_succ (fun f => !nV f) TK l k hlt
      have hgd : iQ l (k : Int) = l.getD k TK := by unfold iQ TK; rw [Int.toNat_natCast]
      rw [hgd] at hx0 hx1 hl1 hC1
      rw [Int.toNat_natCast] at hx0 hx1
      clear hgd
      obtain ⟨f, hf⟩ : ∃ v, v = l.getD k TK := ⟨_, rfl⟩
      rw [← hf] at hx0 hx1 hsn hl1 hC1
      have hcall := MK A1 c1 f wr hC1
      cases hq : (!nV f) with
      | true =>
        have HH := iC.mk (JU (fun f => !nV f) TK l k hlt (by rw [← hf]; exact hq))
        rw [hq] at hcall
        clear hf hsn hq hC1 hl1
        go_wp2_with (go_at_call 93; refine hcall.mono ?_; rintro e w' ⟨rfl, hb⟩)
        go_ret
        exact ⟨k, rfl, by rw [HH.out]; simp, iI HW.out hb⟩
      | false =>
        have HN := iC.mk (show (l.take (k + 1)).any (fun f => !nV f) = false by rw [hsn, HA.out, hq]; rfl)
        rw [hq] at hcall
        clear hf hsn hq hC1 hl1
        go_wp2_with (go_at_call 93; refine hcall.mono ?_; rintro e w' ⟨rfl, hb⟩)
        go_roundg (l.length - (k + 1))
        case measure => omega
        case rel => exact ⟨k + 1, by omega, by omega, by go_num, ⟨iI HW.out hb⟩, HN⟩
    · have : k = l.length := by omega
      subst this
      go_wp2
      go_ret
      exact ⟨-1, rfl, by rw [IM _ _ HA.out]; rfl, HW.out⟩
set_option maxHeartbeats 400000 in
theorem JR (A : Option Addr) (c : Nat) (l : List jO) (w : World) (hr : Kd.C k139 w A l.length l) :
    Calls Tryd.prog 92 #[.slice A l.length c, .func (.func 93) #[] #[]] w fun e w' => e = .returned (.bool (l.any fun f => !nV f)) ∧ Below w.heap.size w w' := by
  have hcall := MJ A c l w hr
  clear hr
  generalize (l.any fun f => !nV f) = b at hcall
  go_enter Tryd.func92, Tryd.ntmps92
  go_wp2_with (go_at_call 116; refine hcall.mono ?_; rintro e w' ⟨r, rfl, hr, hb⟩; have HR := iC.mk hr; clear hr)
  go_ret
  exact ⟨by rw [← HR.out]; rfl, hb⟩
theorem QX (l : List jO) : lX l = (decide ((l.length : Int) ≤ 200) && !l.any fun f => !nV f) := by
  unfold lX
  congr 1
  · rw [decide_eq_decide]; omega
  · rw [List.any_eq_not_all_not, Bool.not_not]
    congr 1
    funext v
    simp
def code_batch.f (l0 : List jO) : Option Bool := some (lX l0)
set_option maxHeartbeats 1000000 in
theorem code_batch.calls (A0 : Option Addr) (c0 : Nat) (l0 : List jO) (r : Bool) (w : World) (hr0 : Kd.C k139 w A0 l0.length l0) (hc0 : l0.length ≤ c0) (h : code_batch.f l0 = some r) :
    Calls Tryd.prog 62 #[.slice A0 l0.length c0] w fun e w' => e = .returned (.bool r) ∧ Below w.heap.size w w' := by
  obtain rfl := Option.some.inj h
  have hm := lC hr0
  have hcall := JR A0 c0 l0 w hr0
  clear hr0 h
  rw [QX]
  by_cases h4 : (l0.length : Int) ≤ 200
  · rw [decide_eq_true h4, Bool.true_and]
    generalize (l0.any fun f => !nV f) = b at hcall
    go_enter Tryd.func62, Tryd.ntmps62
    go_wp2_with (go_at_call 92; refine hcall.mono ?_; rintro e w' ⟨rfl, hb⟩)
    go_ret
    exact ⟨rfl, hb⟩
  · rw [decide_eq_false h4, Bool.false_and]
    clear hcall
    go_enter Tryd.func62, Tryd.ntmps62
    go_wp2
    go_ret
    exact ⟨rfl, Below.refl _ _⟩
end Go.Proofs.YtgfkgppomaapiaaDoor.K
end

section
namespace Go.Proofs.YtgfkgppomaapiaaDoor.K
open Go.RowKit Go.Proofs.YtgfkgppomaapiaaDoorW.PrintWords Go.Proofs.YtgfkgppomaapiaaDoorW.PrintLast Go.Proofs.YtgfkgppomaapiaaDoorW.PrintMore
attribute [local go_sem] kH kS
def code_rises.l0 : Nat → Int → List Int → Int → Int → Option (Bool)
  | 0, _, _, _, _ => none
  | k + 1, x3, x6, x7, x8 => if x8 < x7 then (if 0 ≤ x8 then (if x8 < (x6.length : Int) then (if (rd x6 x8) ≤ x3 then (some false) else (if (rd x6 x8) ≥ 6 then (some false) else (code_rises.l0 k (rd x6 x8) x6 x7 (wrap64 (x8 + 1))))) else (none)) else (none)) else (some true)
def code_rises.f (k : Nat) (l0 : List Int) : Option (Bool) := code_rises.l0 k (-1) l0 (l0.length : Int) 0
set_option maxHeartbeats 8000000 in
set_option maxRecDepth 100000 in
theorem code_rises.calls (k : Nat) (A0 : Option Addr) (c0 : Nat) (l0 : List Int) (r : Bool) (w : World) (hr0 : Kd.C (Kd.int .i64) w A0 l0.length l0) (hc0 : l0.length ≤ c0) (h : code_rises.f k l0 = some r) :
    Calls Tryd.prog 61 #[.slice A0 l0.length c0] w fun e w' => e = .returned (.bool r) ∧ jG w w' := by
  have HR0 := iC.mk hr0
  have HC0 := iC.mk hc0
  clear hr0 hc0
  have H : (code_rises.l0 k (-1) l0 (l0.length : Int) 0) = some r := h
  clear h
  have H' := iC.mk H
  clear H
  go_enter Tryd.func61, Tryd.ntmps61
  go_wp2
  go_loopg [3, 8] k (fun kq v3 v8 w' => ∃ (x3_1 : Int) (x8_1 : Int), v3 = .int .i64 x3_1 ∧ v8 = .int .i64 x8_1 ∧ iC (code_rises.l0 kq x3_1 l0 (l0.length : Int) x8_1 = some r) ∧ iC (kq ≤ k) ∧ jG w w')
  case atStart => exact ⟨((-1)), (0), (by first | rfl | (simp; done) | (simp [*]; done)), (by first | rfl | (simp; done) | (simp [*]; done)), H', ⟨Nat.le_refl _⟩, by repeat (first | exact jG.refl _ | apply jG.step)⟩
  case round =>
    clear H'
    obtain ⟨x3_1, x8_1, rfl, rfl, HA, HK1, ⟨m1, rfl⟩⟩ := hrel
    cases gk with
    | zero => exact absurd HA.out (by simp [code_rises.l0])
    | succ k1 =>
      have H := HA.out
      clear HA
      simp only [code_rises.l0] at H
      by_cases c2 : x8_1 < (l0.length : Int)
      · rw [if_pos c2] at H
        have c2b0 : decide (x8_1 < (l0.length : Int)) = true := decide_eq_true c2
        clear c2
        by_cases c3 : 0 ≤ x8_1
        · rw [if_pos c3] at H
          have c3b0 : decide (0 ≤ x8_1) = true := decide_eq_true c3
          clear c3
          by_cases c4 : x8_1 < (l0.length : Int)
          · rw [if_pos c4] at H
            have c4b0 : decide (x8_1 < (l0.length : Int)) = true := decide_eq_true c4
            clear c4
            by_cases c5 : (rd l0 x8_1) ≤ x3_1
            · rw [if_pos c5] at H
              have c5b0 : decide ((rd l0 x8_1) ≤ x3_1) = true := decide_eq_true c5
              clear c5
              obtain rfl := Option.some.inj H
              have p106 : 0 ≤ (x8_1 : Int) := of_decide_eq_true asm_
              have q106 : x8_1 < (l0.length : Int) := of_decide_eq_true asm_
              obtain ⟨ad106, e106, hx106_0⟩ := Kd.at_int HR0.out x8_1 p106 q106
              cases e106
              replace p106 := eq_true p106
              replace q106 := eq_true q106
              go_wp2
              go_ret
              exact ⟨by first | rfl | (simp; done) | (simp [*]; done), by repeat (first | exact jG.refl _ | apply jG.step)⟩
            · rw [if_neg c5] at H
              have c5b0 : decide ((rd l0 x8_1) ≤ x3_1) = false := decide_eq_false c5
              clear c5
              by_cases c6 : (rd l0 x8_1) ≥ 6
              · rw [if_pos c6] at H
                have c6b0 : decide (6 ≤ (rd l0 x8_1)) = true := decide_eq_true c6
                clear c6
                obtain rfl := Option.some.inj H
                have p106 : 0 ≤ (x8_1 : Int) := of_decide_eq_true asm_
                have q106 : x8_1 < (l0.length : Int) := of_decide_eq_true asm_
                obtain ⟨ad106, e106, hx106_0⟩ := Kd.at_int HR0.out x8_1 p106 q106
                cases e106
                replace p106 := eq_true p106
                replace q106 := eq_true q106
                go_wp2
                go_ret
                exact ⟨by first | rfl | (simp; done) | (simp [*]; done), by repeat (first | exact jG.refl _ | apply jG.step)⟩
              · rw [if_neg c6] at H
                have c6b0 : decide (6 ≤ (rd l0 x8_1)) = false := decide_eq_false c6
                clear c6
                have H' := iC.mk H
                clear H
                have p106 : 0 ≤ (x8_1 : Int) := of_decide_eq_true asm_
                have q106 : x8_1 < (l0.length : Int) := of_decide_eq_true asm_
                obtain ⟨ad106, e106, hx106_0⟩ := Kd.at_int HR0.out x8_1 p106 q106
                cases e106
                replace p106 := eq_true p106
                replace q106 := eq_true q106
                go_wp2
                go_roundg k1
                case measure => have := HK1.out; omega
                case rel => exact ⟨(rd l0 x8_1), (wrap64 (x8_1 + 1)), (by first | rfl | (simp; done) | (simp [*]; done)), (by first | rfl | (simp; done) | (simp [*]; done)), H', ⟨by have := HK1.out; omega⟩, by repeat (first | exact jG.refl _ | apply jG.step)⟩
          · rw [if_neg c4] at H
            exact absurd H (by simp)
        · rw [if_neg c3] at H
          exact absurd H (by simp)
      · rw [if_neg c2] at H
        have c2b0 : decide (x8_1 < (l0.length : Int)) = false := decide_eq_false c2
        clear c2
        obtain rfl := Option.some.inj H
        go_wp2
        go_ret
        exact ⟨by first | rfl | (simp; done) | (simp [*]; done), by repeat (first | exact jG.refl _ | apply jG.step)⟩
end Go.Proofs.YtgfkgppomaapiaaDoor.K
end
