/- Parts of the proof, one behind the other: Base, Row, Card, Order, K0, CodeP, ReadN, ReadL, K34, K35, K36, K37, CodeB, K4, K9, K10. -/
import Derived.Test.YtgfkgppomaapiaaDoorQWalLasts1
import Derived.Test.YtgfkgppomaapiaaDoorProg
import Derived.WalkSpells
import Derived.WalkLawsBesides
import Derived.RegionTactic
import Derived.ChangeAlike
import Derived.Lib.Hide
import Derived.Lib.SlBytesConst
import Derived.ProofKit
import Derived.OpenShut
import Derived.ShutString
import Derived.ChangeOld
import Derived.SizedLaws
import Derived.ChangeSlices
import Derived.Test.YtgfkgppomaapiaaDoorCards
import Derived.Test.YtgfkgppomaapiaaDoorTie
import Derived.LaidMore
import Derived.Stop.Joined
import Derived.Deep.DeepHandedRow
import Derived.Test.YtgfkgppomaapiaaDoorRows
import Derived.JoinedCond
import Derived.Lib.BufferMore
import Derived.Shelf.Abstract
set_option linter.unusedVariables false
set_option linter.unusedSimpArgs false
section
namespace Go.Proofs.YtgfkgppomaapiaaDoor.My
open Go Go.RowKit Go.Proofs.YtgfkgppomaapiaaDoorW.PrintWords
def kb : Kd UInt8 := Kd.scalar (fun b => Value.int .u8 (b.toNat : Int)) (fun _ => rfl)
theorem C_at {w : World} {A : Option Addr} {n : Nat} {l : List UInt8} (h : kb.C w A n l) (i : Nat) (hi : i < n) : ∃ ad, A = some ad ∧ w.cell? (ad.add i) = some (.int .u8 (l.getD i 0).toNat) := by
 obtain ⟨ad, c, e, hl, hK, hc⟩ := Kd.C_get h 0 (i : Int) (by omega) (by omega)
 have hK' : c = [.int .u8 (l.getD i 0).toNat] := hK
 subst hK'
 have := hc 0 _ rfl
 simp only [Int.toNat_natCast, Nat.add_zero] at this
 rw [show kb.sz = 1 from rfl, Nat.mul_one] at this
 exact ⟨ad, e, this⟩
theorem lC {α : Type} {d : Kd α} {w : World} {A : Option Addr} {n : Nat} {l : List α} (h : d.C w A n l) : n ≤ 9223372036854775807 := h.2.1
theorem X6 {w : World} {e : Nat} {A : Option Addr} {n : Nat} {l : List (List UInt8)} (h : (Kd.slice e kb).C w A n l) (i : Nat) (hi : i < n) :
  ∃ ad A' c', A = some ad ∧ w.cell? (ad.add i) = some (.slice A' (l.getD i []).length c') ∧ (l.getD i []).length ≤ c' ∧ kb.C w A' (l.getD i []).length (l.getD i []) := by
 obtain ⟨ad, c, e, hl, hK, hc⟩ := Kd.C_get h [] (i : Int) (by omega) (by omega)
 obtain ⟨A', c', rfl, h1, h2⟩ := hK
 have := hc 0 _ rfl
 simp only [Int.toNat_natCast, Nat.add_zero] at this h1 h2
 rw [show (Kd.slice _ kb).sz = 1 from rfl, Nat.mul_one] at this
 exact ⟨ad, A', c', e, this, h1, h2⟩
theorem lH {α : Type} (d : α) (l : List α) (k : Nat) (h : k < l.length) : l.take (k + 1) = l.take k ++ [l.getD k d] := by
 rw [List.take_succ_eq_append_getElem h, List.getD_eq_getElem?_getD, List.getElem?_eq_getElem h]; rfl
def Cs (W : World) (cs : List Value) (ls : List (List UInt8)) : Prop :=
 cs.length = ls.length ∧ ∀ (i : Nat) (l : List UInt8), ls[i]? = some l → ∃ A c, cs[i]? = some (.slice A l.length c) ∧ l.length ≤ c ∧ kb.C W A l.length l
theorem Cs.nil (W : World) : Cs W [] [] := ⟨rfl, fun i l h => by simp at h⟩
theorem Cs.cons {W : World} {cs : List Value} {ls : List (List UInt8)} {A : Option Addr} {c n : Nat} {l : List UInt8} (h : kb.C W A n l) (hc : n ≤ c) (hs : Cs W cs ls) : Cs W (.slice A n c :: cs) (l :: ls) := by
 have hn := h.1
 subst hn
 refine ⟨by simp [hs.1], fun i x hx => ?_⟩
 rcases i with _ | i
 ·obtain rfl : l = x := by simpa using hx
  exact ⟨A, c, rfl, hc, h⟩
 ·exact hs.2 i x (by simpa using hx)
theorem PT (a : Addr) (i : Nat) (h : 0 < i) : a.add i = ⟨a.block, a.off + i, none⟩ := by unfold Addr.add; rw [if_neg (by omega)]
theorem TP (a : Addr) : a.add 0 = a := by unfold Addr.add; rw [if_pos rfl]
theorem jB {W : World} {o : Obj} {b : Nat} (hb : b = W.heap.size) : (W.alloc o).heap[b]? = some o := by
 subst hb
 show (W.heap.push o)[W.heap.size]? = _
 simp
theorem jM {W : World} {o o' : Obj} {b : Nat} (h : W.heap[b]? = some o') : (W.alloc o).heap[b]? = some o' := by
 rw [Below.heap_alloc _ _ _ (jU h)]
 exact h
theorem iO {W W' : World} {o : Obj} {b : Nat} (hb : Below W.heap.size W W') (h : W.heap[b]? = some o) : W'.heap[b]? = some o := (hb.block b (jU h)).trans h
theorem YN {W : World} {b e t : Nat} {fz : Nat × Nat} {cells : Array Value} {ls : List (List UInt8)} {n : Nat} (hb : W.heap[b]? = some (.cells cells e fz)) (hn : n = ls.length) (hm : ls.length ≤ 9223372036854775807) (hc : Cs W cells.toList ls) :
  (Kd.slice t kb).C W (some ⟨b, 0, none⟩) n ls := by
 subst hn
 refine ⟨rfl, hm, fun _ => ⟨_, rfl, fun j p hj => ?_⟩⟩
 obtain ⟨A, c, h1, h2, h3⟩ := hc.2 j p hj
 refine ⟨[.slice A p.length c], rfl, ⟨A, c, rfl, h2, h3⟩, fun i u hi => ?_⟩
 have hi0 : i = 0 := by
  rcases i with _ | i
  ·rfl
  ·simp at hi
 subst hi0
 have hu : u = .slice A p.length c := by simpa using hi.symm
 subst hu
 rw [add_plain, show (Kd.slice _ kb).sz = 1 from rfl, Nat.mul_one, Nat.add_zero]
 have e1 : cells[j]? = some (.slice A p.length c) := by rw [← Array.getElem?_toList]; exact h1
 simp [World.cell?, hb, e1]
theorem rG : (Tryd.prog.info? 5).map (·.size) = some 1 := by kernel_rfl
theorem YV {w : World} {A : Option Addr} {c : Nat} {l : List UInt8} (h : kb.C w A l.length l) (hc : l.length ≤ c) (lo hi : Nat) (loI hiI : Int) (e1 : loI = lo) (e2 : hiI = hi) (h1 : lo ≤ hi) (h2 : hi ≤ l.length) :
  ∃ A', (∀ W : World, (Instr.slice 33 (.slice A l.length c) (some (.int .i64 loI)) (some (.int .i64 hiI)) none).run Tryd.prog W = .ok (.slice A' (hi - lo) (c - lo)) W) ∧ kb.C w A' (hi - lo) ((l.take hi).drop lo) := by
 subst e1; subst e2
 obtain ⟨i, hi0, hsz⟩ := Option.map_eq_some_iff.1 rG
 have hl : ((l.take hi).drop lo).length = hi - lo := by rw [List.length_drop, List.length_take]; omega
 refine ⟨if c = lo then A else A.map (·.add (lo * 1)), fun W => ?_, ?_⟩
 ·have := ja9 (P := Tryd.prog) 33 5 .i64 .i64 Tryd.underlying33 hi0 1 hsz A l.length c lo hi (by omega) (by omega) (by omega) hc W
  simpa using this
 ·have := Kd.C_mid h h1 h2 hc
  rw [hl] at this
  exact this
theorem je3 {w : World} {A : Option Addr} {c : Nat} {l : List UInt8} (h : kb.C w A l.length l) (hc : l.length ≤ c) (lo : Nat) (loI : Int) (e1 : loI = lo) (h1 : lo ≤ l.length) :
  ∃ A', (∀ W : World, (Instr.slice 33 (.slice A l.length c) (some (.int .i64 loI)) none none).run Tryd.prog W = .ok (.slice A' (l.length - lo) (c - lo)) W) ∧ kb.C w A' (l.length - lo) (l.drop lo) := by
 subst e1
 obtain ⟨i, hi0, hsz⟩ := Option.map_eq_some_iff.1 rG
 have hl : (l.drop lo).length = l.length - lo := List.length_drop
 refine ⟨if c = lo then A else A.map (·.add lo), fun W => ?_, ?_⟩
 ·have hel : Tryd.prog.elem 33 = 5 := by simp [Program.elem, Tryd.underlying33]
  have hu : Tryd.prog.underlying 33 = some (.slice (Tryd.prog.elem 33)) := by rw [hel]; exact Tryd.underlying33
  rw [run_slice_l W 33 A l.length c hu .i64 (lo : Int) (Int.natCast_nonneg _) (by omega), hel]
  simp [sizeOf, typeInfo, hi0, hsz, sliced, Result.andThen]
 ·have := Kd.C_drop h h1 hc
  rw [hl, show lo * kb.sz = lo from Nat.mul_one _] at this
  exact this
theorem je7 (A : Option Addr) (n c hi : Nat) (hiI : Int) (e1 : hiI = hi) (h1 : hi ≤ n) (hc : n ≤ c) :
  ∀ W : World, (Instr.slice 33 (.slice A n c) none (some (.int .i64 hiI)) none).run Tryd.prog W = .ok (.slice A hi c) W := by
 subst e1
 intro W
 obtain ⟨i, hi0, hsz⟩ := Option.map_eq_some_iff.1 rG
 have hel : Tryd.prog.elem 33 = 5 := by simp [Program.elem, Tryd.underlying33]
 have hu : Tryd.prog.underlying 33 = some (.slice (Tryd.prog.elem 33)) := by rw [hel]; exact Tryd.underlying33
 rw [run_slice_h W 33 A n c hu .i64 (hi : Int) (Int.natCast_nonneg _) (by omega), hel]
 simp [sizeOf, typeInfo, hi0, hsz, sliced, Result.andThen]
 intro _
 cases A with
 | none => rfl
 | some a => simp [Addr.add]
theorem WC {w : World} {A : Option Addr} {l : List UInt8} (h : kb.C w A l.length l) (n : Nat) (hn : n ≤ l.length) : kb.C w A n (l.take n) := by
 have := Kd.C_take h hn
 rwa [show (l.take n).length = n from by rw [List.length_take]; omega] at this
def bs (l : List UInt8) : ByteArray := ⟨l.toArray⟩
theorem yC (l : List UInt8) : (bs l).data.toList = l := by simp [bs]
theorem jC (l : List UInt8) : (bs l).toList = l := by rw [ByteArray.toList_eq, yC]
theorem xE {w : World} {A : Option Addr} {n : Nat} {l : List UInt8} (h : kb.C w A n l) : uK w .u8 A n (l.map fun b => (b.toNat : Int)) := by
 refine ⟨by rw [List.length_map]; exact h.1, h.2.1, fun hn => ?_⟩
 obtain ⟨ad, e, _⟩ := h.2.2 hn
 refine ⟨ad, e, fun i hi => ?_⟩
 obtain ⟨ad', e', hc⟩ := C_at h i hi
 obtain rfl : ad = ad' := by rw [e] at e'; injection e'
 rw [hc, List.getD_eq_getElem?_getD, List.getD_eq_getElem?_getD, List.getElem?_map]
 rw [List.getElem?_eq_getElem (by have := h.1; omega)]
 rfl
theorem uJ (l : List UInt8) : strOfNums (l.map fun b => (b.toNat : Int)) = bs l := by
 unfold strOfNums bs
 congr 1
 apply Array.ext'
 simp only [List.map_map]
 conv => rhs; rw [← List.map_id l]
 apply List.map_congr_left
 intro b _
 simp
theorem zG {w : World} {A : Option Addr} {n c : Nat} {l : List UInt8} (h : kb.C w A n l) : (convert 33 9 (.slice A n c)).run Tryd.prog w = .ok (.string (bs l)) w := by
 rw [← uJ]
 exact rF Tryd.underlying33 Tryd.underlying5 Tryd.underlying9 (xE h)
theorem j05 {w : World} {base e : Nat} {ok : Nat → Prop} {v : Value} {l : List UInt8} (h : kb.R e w base ok v l) (hp : 0 < l.length) :
  ∃ g cap, v = .slice (some ⟨g, 0, none⟩) l.length cap ∧ l.length ≤ cap ∧ base ≤ g ∧ ok g ∧ (∀ i, w.frozen? ⟨g, i, none⟩ = false) ∧ kb.C w (some ⟨g, 0, none⟩) l.length l := by
 have ho := Kd.own_of_R (enc := fun b : UInt8 => Value.int .u8 (b.toNat : Int)) (h1 := fun _ => rfl) h
 obtain ⟨g, cap, rfl, hb, hl⟩ := ho.form hp
 obtain ⟨A', c', e', h1, h2⟩ := Kd.R_reads h
 injection e' with e1 e2 e3
 subst e1; subst e3
 obtain ⟨cells, hc⟩ := mM ho g (by simp [Value.ownBlock])
 exact ⟨g, cap, rfl, h1, hb, h.1 g (by simp [Value.ownBlock]), fun i => iD hc i, h2⟩
theorem kb_R {w : World} {base : Nat} {ok : Nat → Prop} {e n c : Nat} {A : Option Addr} {l : List UInt8} (h : kb.R e w base ok (.slice A n c) l) : n = l.length ∧ n ≤ c ∧ kb.C w A l.length l := by
 obtain ⟨A', c', e', h1, h2⟩ := Kd.R_reads h
 injection e' with e1 e2 e3
 subst e1; subst e2; subst e3
 exact ⟨rfl, h1, h2⟩
theorem MF {W w1 : World} (hb : Below W.heap.size W w1) {a : Addr} {v : Value} (h : W.cell? a = some v) : w1.cell? a = some v := lD hb h
structure Only (b : Nat) (w w' : World) : Prop where
 os : w'.os = w.os
 tape : w'.tape = w.tape
 output : w'.output = w.output
 size : w'.heap.size = w.heap.size
 block : ∀ k, k ≠ b → w'.heap[k]? = w.heap[k]?
theorem Only.refl (b : Nat) (w : World) : Only b w w := ⟨rfl, rfl, rfl, rfl, fun _ _ => rfl⟩
theorem Only.set {b : Nat} {w w' : World} (h : Only b w w') (o : Nat) (v : Value) : Only b w (w'.setCell ⟨b, o, none⟩ v) :=
 ⟨h.os, h.tape, h.output, by simp [World.setCell, h.size], fun k hk => by rw [Below.heap_setCell _ _ _ _ hk]; exact h.block k hk⟩
theorem Only.drew {b : Nat} {w w' : World} (h : Only b w w') : Only b w w'.drew := ⟨h.os, h.tape, h.output, h.size, h.block⟩
theorem Only.below {b B : Nat} {w0 w w' : World} (h : Only b w w') (hB : B ≤ b) (h0 : Below B w0 w) : Below B w0 w' :=
 ⟨h.os.trans h0.os, h.tape.trans h0.tape, h.output.trans h0.output, by rw [h.size]; exact h0.size, fun k hk => (h.block k (by omega)).trans (h0.block k hk)⟩
end Go.Proofs.YtgfkgppomaapiaaDoor.My
end
section
namespace Go.Proofs.YtgfkgppomaapiaaDoorW.PrintMore
open Go Go.RowKit Go.Proofs.YtgfkgppomaapiaaDoorW.PrintWords Go.Proofs.YtgfkgppomaapiaaDoorW.PrintLast Go.Proofs.YtgfkgppomaapiaaDoorW.PrintMore
theorem bel_ {p : Prop} (h : p := by (with_reducible (repeat (first | exact Below.refl _ _ | apply iG | apply jO | apply iF | apply Go.Proofs.YtgfkgppomaapiaaDoor.My.below_bytesWorld | (refine iH ?_ (by first | assumption | omega)) | refine iK ?_ (by assumption))))) : p := h
theorem hb_ {p : Prop} (h : p := by repeat (first | (with_reducible first | exact HB.out | apply iG | apply iF | apply iJ) | exact HB.out)) : p := h
theorem asm_ {p : Prop} (h : p := by first | (with_reducible assumption) | assumption) : p := h
theorem bk_ {p q : Prop} (h : p) (f : p → q := by intro h; (with_reducible repeat (first | refine iL ?_ _ | refine iM ?_ | refine iI ?_ _)); exact h) : q := f h
end Go.Proofs.YtgfkgppomaapiaaDoorW.PrintMore
end

section
namespace Go.Proofs.YtgfkgppomaapiaaDoor.My
open Go Go.RowKit Go.Proofs.YtgfkgppomaapiaaDoorW.PrintWords
theorem own : ownKnob Tryd.prog.godebug = none := by kernel_rfl
theorem laidOut : laidOutB Tryd.prog = true := by kernel_rfl
theorem wf_u8 {n : Int} (h : (Lit.int .u8 n).wf = true) : 0 ≤ n ∧ n < 256 := by
 have := bounds_u8 h
 omega
theorem wf_i64 {n : Int} (h : (Lit.int .i64 n).wf = true) : -9223372036854775808 ≤ n ∧ n ≤ 9223372036854775807 := by
 have := bounds_i64 h
 omega
theorem wf_u32 {n : Int} (h : (Lit.int .u32 n).wf = true) : 0 ≤ n ∧ n < 4294967296 := by
 have := bounds_u32 h
 omega
end Go.Proofs.YtgfkgppomaapiaaDoor.My
end

section
namespace Go.Proofs.YtgfkgppomaapiaaDoor.My
open Go Go.RowKit
theorem door_met (os : Os) (args : Array Value) : laidMetH Tryd.prog [("bytes.ErrTooLarge", Rows.laid_bytes_ErrTooLarge)] ((World.doorLaid Tryd.prog 400 os).forCall (fun _ _ => 0) ⟨#[], args, []⟩).memory :=
 show laidMetH Tryd.prog [("bytes.ErrTooLarge", Rows.laid_bytes_ErrTooLarge)] _ from laidMetH_of_parts3 (fuel := 8) (laidMet_of_run' 8 (by kernel_rfl) (by kernel_rfl)) (by kernel_rfl) (by kernel_rfl)
theorem OH (os : Os) (args : Array Value) : ((World.doorLaid Tryd.prog 400 os).forCall (fun _ _ => 0) ⟨#[], args, []⟩).Shaped Tryd.prog := World.shaped_of_RefB (by kernel_rfl) (by kernel_rfl)
theorem witness_door {H : Type} {enc : TypeId × Value → H} {os : Os} {f : FuncId} {fn : Func} {s : OpenSpec} (args : Array Value) {x : List (DataW H) × List (DataW H) × List MemPlace}
  (hok : Input.okWideB Tryd.prog ((World.doorLaid Tryd.prog 400 os).forCall (fun _ _ => 0) ⟨#[], args, []⟩) f ⟨#[], args, []⟩ = true)
  (hx : DataW.whole enc Tryd.prog ((World.doorLaid Tryd.prog 400 os).forCall (fun _ _ => 0) ⟨#[], args, []⟩).memory fn.params.toList s.vars false args.toList 8 = some x)
  (hkk : ∀ k, s.cond = some k → k H (x.1 ++ x.2.1) = true)
  (hsz : s.bare.sizedB enc Tryd.prog fn false ((World.doorLaid Tryd.prog 400 os).forCall (fun _ _ => 0) ⟨#[], args, []⟩).memory args 8 = true) :
  ∃ (w : World) (tape : Tape) (i : Input), w.os = os ∧ (w.forCall tape i).Shaped Tryd.prog ∧ i.vars = [] ∧ Input.okWide Tryd.prog (w.forCall tape i) .any w.heap.size f i ∧
   s.preRow enc Tryd.prog fn [] false [("bytes.ErrTooLarge", Rows.laid_bytes_ErrTooLarge)] (w.forCall tape i).memory i.args ∧ ({} : Assume).holds Tryd.prog (lone (Frame.enter Tryd.prog f i.args .normal) [] (w.forCall tape i)) :=
 ⟨World.doorLaid Tryd.prog 400 os, fun _ _ => 0, ⟨#[], args, []⟩, rfl, OH os args, (Input.okWide_of_okWideB (base := 0) hok).1, (Input.okWide_of_okWideB hok).2,
  OpenSpec.preRow_of_cond 8 hx rfl hkk hsz (door_met os args), by
  simp only [Assume.holds]
  exact ⟨by simp, by simp, fun _ => Modest.zero, by simp, by simp⟩⟩
end Go.Proofs.YtgfkgppomaapiaaDoor.My
end

section
namespace Go.Proofs.YtgfkgppomaapiaaDoor.My
open Go
set_option maxRecDepth 100000
theorem Q4 (c : Char) (h : c ≠ Char.ofNat 32) {r w : List Char} {ws : List (List Char)} (hr : wordsSigns r = w :: ws) : wordsSigns (c :: r) = (c :: w) :: ws := by
 unfold wordsSigns
 split
 ·rename_i heq; cases heq
 ·rename_i heq; injection heq with h1 _; exact absurd h1 h
 ·rename_i heq; injection heq with h1 h2; subst h1; subst h2; rw [hr]
theorem uQ : ∀ (w : List Char), (w.all fun c => decide (c ≠ Char.ofNat 32)) = true → ∀ r, wordsSigns (w ++ Char.ofNat 32 :: r) = w :: wordsSigns r
 | [], _, r => rfl
 | c :: w, h, r => by
  simp only [List.all_cons, Bool.and_eq_true, decide_eq_true_eq] at h
  exact Q4 c h.1 (uQ w h.2 r)
def jb5 : List Char := [Char.ofNat 104, Char.ofNat 97, Char.ofNat 114, Char.ofNat 110, Char.ofNat 101, Char.ofNat 115, Char.ofNat 115]
def j06 : List Char := [Char.ofNat 102, Char.ofNat 97, Char.ofNat 54, Char.ofNat 55, Char.ofNat 50, Char.ofNat 100, Char.ofNat 57, Char.ofNat 50, Char.ofNat 53, Char.ofNat 102, Char.ofNat 97, Char.ofNat 49, Char.ofNat 102, Char.ofNat 56, Char.ofNat 50, Char.ofNat 98, Char.ofNat 49, Char.ofNat 102, Char.ofNat 49, Char.ofNat 52,
  Char.ofNat 54, Char.ofNat 55, Char.ofNat 100, Char.ofNat 101, Char.ofNat 49, Char.ofNat 57, Char.ofNat 57, Char.ofNat 54, Char.ofNat 100, Char.ofNat 99, Char.ofNat 50, Char.ofNat 100, Char.ofNat 49, Char.ofNat 50, Char.ofNat 49, Char.ofNat 52, Char.ofNat 52, Char.ofNat 101, Char.ofNat 54, Char.ofNat 56,
  Char.ofNat 51, Char.ofNat 54, Char.ofNat 57, Char.ofNat 102, Char.ofNat 99, Char.ofNat 53, Char.ofNat 48, Char.ofNat 54, Char.ofNat 48, Char.ofNat 57, Char.ofNat 48, Char.ofNat 97, Char.ofNat 50, Char.ofNat 57, Char.ofNat 97, Char.ofNat 48, Char.ofNat 50, Char.ofNat 51, Char.ofNat 49, Char.ofNat 57,
  Char.ofNat 97, Char.ofNat 101, Char.ofNat 56, Char.ofNat 97]
def word2 : List Char := [Char.ofNat 99, Char.ofNat 117, Char.ofNat 116]
def behind : List Char := [Char.ofNat 97, Char.ofNat 116, Char.ofNat 32, Char.ofNat 115, Char.ofNat 116, Char.ofNat 114, Char.ofNat 97, Char.ofNat 116, Char.ofNat 117, Char.ofNat 109, Char.ofNat 47, Char.ofNat 115, Char.ofNat 116, Char.ofNat 114, Char.ofNat 97, Char.ofNat 116, Char.ofNat 117, Char.ofNat 109, Char.ofNat 108, Char.ofNat 97,
  Char.ofNat 119, Char.ofNat 48, Char.ofNat 55, Char.ofNat 46, Char.ofNat 67, Char.ofNat 111, Char.ofNat 100, Char.ofNat 101, Char.ofNat 69, Char.ofNat 110, Char.ofNat 99, Char.ofNat 111, Char.ofNat 100, Char.ofNat 101, Char.ofNat 115, Char.ofNat 32, Char.ofNat 115, Char.ofNat 116, Char.ofNat 114, Char.ofNat 97,
  Char.ofNat 116, Char.ofNat 117, Char.ofNat 109, Char.ofNat 47, Char.ofNat 115, Char.ofNat 116, Char.ofNat 114, Char.ofNat 97, Char.ofNat 116, Char.ofNat 117, Char.ofNat 109, Char.ofNat 108, Char.ofNat 97, Char.ofNat 119, Char.ofNat 48, Char.ofNat 55, Char.ofNat 46, Char.ofNat 67, Char.ofNat 111, Char.ofNat 100,
  Char.ofNat 101, Char.ofNat 77, Char.ofNat 97, Char.ofNat 107, Char.ofNat 101, Char.ofNat 115, Char.ofNat 32, Char.ofNat 115, Char.ofNat 116, Char.ofNat 114, Char.ofNat 97, Char.ofNat 116, Char.ofNat 117, Char.ofNat 109, Char.ofNat 47, Char.ofNat 115, Char.ofNat 116, Char.ofNat 114, Char.ofNat 97, Char.ofNat 116,
  Char.ofNat 117, Char.ofNat 109, Char.ofNat 108, Char.ofNat 97, Char.ofNat 119, Char.ofNat 48, Char.ofNat 55, Char.ofNat 46, Char.ofNat 67, Char.ofNat 111, Char.ofNat 100, Char.ofNat 101, Char.ofNat 68, Char.ofNat 101, Char.ofNat 99, Char.ofNat 111, Char.ofNat 100, Char.ofNat 101, Char.ofNat 115, Char.ofNat 32,
  Char.ofNat 115, Char.ofNat 116, Char.ofNat 114, Char.ofNat 97, Char.ofNat 116, Char.ofNat 117, Char.ofNat 109, Char.ofNat 47, Char.ofNat 115, Char.ofNat 116, Char.ofNat 114, Char.ofNat 97, Char.ofNat 116, Char.ofNat 117, Char.ofNat 109, Char.ofNat 108, Char.ofNat 97, Char.ofNat 119, Char.ofNat 49, Char.ofNat 54,
  Char.ofNat 46, Char.ofNat 77, Char.ofNat 115, Char.ofNat 103, Char.ofNat 69, Char.ofNat 110, Char.ofNat 99, Char.ofNat 111, Char.ofNat 100, Char.ofNat 101, Char.ofNat 115, Char.ofNat 32, Char.ofNat 115, Char.ofNat 116, Char.ofNat 114, Char.ofNat 97, Char.ofNat 116, Char.ofNat 117, Char.ofNat 109, Char.ofNat 47,
  Char.ofNat 115, Char.ofNat 116, Char.ofNat 114, Char.ofNat 97, Char.ofNat 116, Char.ofNat 117, Char.ofNat 109, Char.ofNat 108, Char.ofNat 97, Char.ofNat 119, Char.ofNat 49, Char.ofNat 54, Char.ofNat 46, Char.ofNat 77, Char.ofNat 115, Char.ofNat 103, Char.ofNat 68, Char.ofNat 101, Char.ofNat 99, Char.ofNat 111,
  Char.ofNat 100, Char.ofNat 101, Char.ofNat 115, Char.ofNat 32, Char.ofNat 115, Char.ofNat 116, Char.ofNat 114, Char.ofNat 97, Char.ofNat 116, Char.ofNat 117, Char.ofNat 109, Char.ofNat 47, Char.ofNat 115, Char.ofNat 116, Char.ofNat 114, Char.ofNat 97, Char.ofNat 116, Char.ofNat 117, Char.ofNat 109, Char.ofNat 108,
  Char.ofNat 97, Char.ofNat 119, Char.ofNat 49, Char.ofNat 54, Char.ofNat 46, Char.ofNat 77, Char.ofNat 115, Char.ofNat 103, Char.ofNat 66, Char.ofNat 97, Char.ofNat 99, Char.ofNat 107, Char.ofNat 32, Char.ofNat 115, Char.ofNat 116, Char.ofNat 114, Char.ofNat 97, Char.ofNat 116, Char.ofNat 117, Char.ofNat 109,
  Char.ofNat 47, Char.ofNat 115, Char.ofNat 116, Char.ofNat 114, Char.ofNat 97, Char.ofNat 116, Char.ofNat 117, Char.ofNat 109, Char.ofNat 108, Char.ofNat 97, Char.ofNat 119, Char.ofNat 49, Char.ofNat 54, Char.ofNat 46, Char.ofNat 77, Char.ofNat 115, Char.ofNat 103, Char.ofNat 79, Char.ofNat 110, Char.ofNat 108,
  Char.ofNat 121, Char.ofNat 32, Char.ofNat 115, Char.ofNat 116, Char.ofNat 114, Char.ofNat 97, Char.ofNat 116, Char.ofNat 117, Char.ofNat 109, Char.ofNat 47, Char.ofNat 115, Char.ofNat 116, Char.ofNat 114, Char.ofNat 97, Char.ofNat 116, Char.ofNat 117, Char.ofNat 109, Char.ofNat 108, Char.ofNat 97, Char.ofNat 119,
  Char.ofNat 49, Char.ofNat 54, Char.ofNat 46, Char.ofNat 77, Char.ofNat 115, Char.ofNat 103, Char.ofNat 65, Char.ofNat 112, Char.ofNat 97, Char.ofNat 114, Char.ofNat 116, Char.ofNat 32, Char.ofNat 115, Char.ofNat 116, Char.ofNat 114, Char.ofNat 97, Char.ofNat 116, Char.ofNat 117, Char.ofNat 109, Char.ofNat 47,
  Char.ofNat 115, Char.ofNat 116, Char.ofNat 114, Char.ofNat 97, Char.ofNat 116, Char.ofNat 117, Char.ofNat 109, Char.ofNat 108, Char.ofNat 97, Char.ofNat 119, Char.ofNat 49, Char.ofNat 54, Char.ofNat 46, Char.ofNat 77, Char.ofNat 115, Char.ofNat 103, Char.ofNat 75, Char.ofNat 105, Char.ofNat 110, Char.ofNat 100,
  Char.ofNat 115, Char.ofNat 32, Char.ofNat 115, Char.ofNat 116, Char.ofNat 114, Char.ofNat 97, Char.ofNat 116, Char.ofNat 117, Char.ofNat 109, Char.ofNat 47, Char.ofNat 115, Char.ofNat 116, Char.ofNat 114, Char.ofNat 97, Char.ofNat 116, Char.ofNat 117, Char.ofNat 109, Char.ofNat 108, Char.ofNat 97, Char.ofNat 119,
  Char.ofNat 49, Char.ofNat 49, Char.ofNat 46, Char.ofNat 87, Char.ofNat 97, Char.ofNat 108, Char.ofNat 82, Char.ofNat 111, Char.ofNat 111, Char.ofNat 109, Char.ofNat 32, Char.ofNat 115, Char.ofNat 116, Char.ofNat 114, Char.ofNat 97, Char.ofNat 116, Char.ofNat 117, Char.ofNat 109, Char.ofNat 47, Char.ofNat 115,
  Char.ofNat 116, Char.ofNat 114, Char.ofNat 97, Char.ofNat 116, Char.ofNat 117, Char.ofNat 109, Char.ofNat 108, Char.ofNat 97, Char.ofNat 119, Char.ofNat 49, Char.ofNat 49, Char.ofNat 46, Char.ofNat 87, Char.ofNat 97, Char.ofNat 108, Char.ofNat 70, Char.ofNat 114, Char.ofNat 111, Char.ofNat 110, Char.ofNat 116,
  Char.ofNat 115, Char.ofNat 32, Char.ofNat 115, Char.ofNat 116, Char.ofNat 114, Char.ofNat 97, Char.ofNat 116, Char.ofNat 117, Char.ofNat 109, Char.ofNat 47, Char.ofNat 115, Char.ofNat 116, Char.ofNat 114, Char.ofNat 97, Char.ofNat 116, Char.ofNat 117, Char.ofNat 109, Char.ofNat 108, Char.ofNat 97, Char.ofNat 119,
  Char.ofNat 49, Char.ofNat 49, Char.ofNat 46, Char.ofNat 87, Char.ofNat 97, Char.ofNat 108, Char.ofNat 76, Char.ofNat 97, Char.ofNat 115, Char.ofNat 116, Char.ofNat 115]
theorem WB : Tryd.prog.initOrder = String.ofList (jb5 ++ Char.ofNat 32 :: (j06 ++ Char.ofNat 32 :: (word2 ++ Char.ofNat 32 :: behind))) := by kernel_rfl
theorem zK : wordsSigns Tryd.prog.initOrder.toList = jb5 :: j06 :: word2 :: wordsSigns behind := by
 rw [WB, String.toList_ofList, uQ _ (by kernel_rfl), uQ _ (by kernel_rfl), uQ _ (by kernel_rfl)]
theorem qX : behindMainWord (wordsSigns Tryd.prog.initOrder.toList) = word2 :: wordsSigns behind := by rw [zK]; kernel_rfl
theorem j02 {P : Program} {h s : List Char} {r : List (List Char)} (e : wordsSigns P.initOrder.toList = h :: s :: r) : P.mainIs = (if !isSumSigns s then none else if h == "harness".toList then some (true, s) else if h == "ownmain".toList then some (false, s) else none) := by unfold Program.mainIs; rw [e]
theorem j04 {P : Program} {c : List Char} {r : List (List Char)} (e : behindMainWord (wordsSigns P.initOrder.toList) = c :: r) (h1 : (c == "gc".toList || c == "spec".toList) = false) (h2 : (c == "cut".toList) = true) : P.make = some .cut := by
 unfold Program.make; rw [e]; simp only [h1, h2]; rfl
theorem jc3 {P : Program} {c : List Char} {r : List (List Char)} (e : behindMainWord (wordsSigns P.initOrder.toList) = c :: r) (h : ((stripLifts liftWords (c :: r)).2.head? == some "cut".toList && ((stripLifts liftWords (c :: r)).1.contains "finals" || !P.laysLater) && ((stripLifts liftWords (c :: r)).1.contains "reflectrows" || !P.bearsReflect) && ((stripLifts liftWords (c :: r)).1.contains "reflectrows" || !(stripLifts liftWords (c :: r)).1.contains "leanrows") && P.doorFits (stripLifts liftWords (c :: r)).1) = true) : P.mayEnter = true := by
 unfold Program.mayEnter; rw [e]; simp only [h, Bool.or_true]
theorem XI : stripLifts liftWords (word2 :: wordsSigns behind) = ([], word2 :: wordsSigns behind) := by kernel_rfl
theorem U9 : Tryd.prog.mayEnter = true := jc3 qX (by rw [XI]; kernel_rfl)
theorem NH : Tryd.prog.liftsFinal = false := by unfold Program.liftsFinal Program.headLifts; rw [qX]; kernel_rfl
theorem TF : Tryd.prog.make = some .cut := j04 qX (by kernel_rfl) (by kernel_rfl)
theorem sum_is : ("fa672d925fa1f82b1f1467de1996dc2d12144e68369fc506090a29a02319ae8a" : String) = String.ofList j06 := by kernel_rfl
theorem RD : Tryd.prog.mainIs = some (true, ("fa672d925fa1f82b1f1467de1996dc2d12144e68369fc506090a29a02319ae8a" : String).toList) := by rw [sum_is, String.toList_ofList]; exact (j02 zK).trans (by kernel_rfl)
theorem pin_may : Tryd.pinned.checked.prog.mayEnter = true := U9
theorem pin_final : Tryd.pinned.checked.prog.liftsFinal = false := NH
theorem pin_make : Tryd.pinned.checked.prog.make = some .cut := TF
theorem pin_main : Tryd.pinned.checked.prog.mainIs = some (true, ("fa672d925fa1f82b1f1467de1996dc2d12144e68369fc506090a29a02319ae8a" : String).toList) := RD
theorem band {a b : Bool} (ha : a = true) (hb : b = true) : (a && b) = true := by rw [ha, hb]; rfl
end Go.Proofs.YtgfkgppomaapiaaDoor.My
end

section
namespace Go.Proofs.YtgfkgppomaapiaaDoor.K
open Go.RowKit Go.Proofs.YtgfkgppomaapiaaDoorW.PrintWords Go.Proofs.YtgfkgppomaapiaaDoorW.PrintLast Go.Proofs.YtgfkgppomaapiaaDoorW.PrintMore
attribute [local go_sem] kF kD kN kM
def errW : Option Int → Value
 | none => .nilIface
 | some c => .iface 0 (.int .i64 c)
theorem iW : errW none = .nilIface := rfl
theorem iV (c : Int) : errW (some c) = .iface 0 (.int .i64 c) := rfl
theorem info3 : (Tryd.prog.info? 3).map (fun i => (i.zero, i.size, i.bytes)) = some (some (.int .i64 0), 1, 8) := by kernel_rfl
theorem info5 : (Tryd.prog.info? 5).map (fun i => (i.zero, i.size, i.bytes)) = some (some (.int .u8 0), 1, 1) := by kernel_rfl
theorem Z9 : (Tryd.prog.info? 86).map (fun i => (i.zero, i.size, i.bytes)) = some (some (.agg #[(.int .u32 0), (.slice none 0 0)]), 2, 32) := by kernel_rfl
theorem ZG : (Tryd.prog.info? 98).map (fun i => (i.zero, i.size, i.bytes)) = some (some (.agg #[(.int .i64 0), (.int .i64 0)]), 2, 16) := by kernel_rfl
structure S139 where
 f0 : (List Int)
 f1 : Int
def z139 : S139 := ⟨([] : List Int), (0 : Int)⟩
def k139 : Kd S139 := Kd.iso (Kd.pair (Kd.slice 3 (Kd.int .i64)) (Kd.int .i64)) (fun x : S139 => (x.f0, x.f1))
theorem uT : Kd.Heap k139 := Kd.heap_iso _ (Kd.heap_pair (Kd.heap_slice 3 (Kd.heap_int .i64)) (Kd.heap_int .i64))
theorem VY {w : World} {x : S139} {cs : List Value} (h : k139.K w x cs) : ∃ A0 c0, cs = [.slice A0 x.f0.length c0, .int .i64 x.f1] ∧ x.f0.length ≤ c0 ∧ (Kd.int .i64).C w A0 x.f0.length x.f0 := by
 obtain ⟨_, _, rfl, ⟨A0, c0, rfl, l0, g0⟩, rfl⟩ := h
 exact ⟨A0, c0, rfl, l0, g0⟩
theorem JR (w : World) (base : Nat) (ok : Nat → Prop) (x : S139) {v0 : Value} (g0 : (Kd.int .i64).R 3 w base ok v0 x.f0) : k139.M w base ok x [v0, .int .i64 x.f1] := ⟨[v0], [.int .i64 x.f1], rfl, ⟨v0, rfl, g0⟩, rfl⟩
def iZ (xs : List S139) (i : Int) : S139 := xs.getD i.toNat z139
theorem mQ {w : World} {A : Option Addr} {n : Nat} {xs : List S139} (h : Kd.C k139 w A n xs) (i : Int) (h0 : 0 ≤ i) (h1 : i < n) : ∃ ad A0 c0, A = some ad ∧ w.cell? (ad.add (i.toNat * 2)) = some (.slice A0 (iZ xs i).f0.length c0) ∧ w.cell? ⟨(ad.add (i.toNat * 2)).block, (ad.add (i.toNat * 2)).off + 1, none⟩ = some (.int .i64 (iZ xs i).f1) ∧ (iZ xs i).f0.length ≤ c0 ∧ (Kd.int .i64).C w A0 (iZ xs i).f0.length (iZ xs i).f0 := by
 obtain ⟨ad, c, e, _, hK, hc0⟩ := Kd.C_get h z139 i h0 h1
 have hc : ∀ j u, c[j]? = some u → w.cell? (ad.add (i.toNat * 2 + j)) = some u := hc0
 obtain ⟨A0, c0, rfl, l0, g0⟩ := VY hK
 exact ⟨ad, A0, c0, e, hc 0 _ rfl, by rw [← pU _ _ 1 (by omega)]; exact hc 1 _ rfl, l0, g0⟩
structure S86 where
 f0 : Int
 f1 : (List S139)
def z86 : S86 := ⟨(0 : Int), ([] : List S139)⟩
def k86 : Kd S86 := Kd.iso (Kd.pair (Kd.int .u32) (Kd.slice 139 k139)) (fun x : S86 => (x.f0, x.f1))
theorem WS {w : World} {x : S86} {cs : List Value} (h : k86.K w x cs) : ∃ A1 c1, cs = [.int .u32 x.f0, .slice A1 x.f1.length c1] ∧ x.f1.length ≤ c1 ∧ k139.C w A1 x.f1.length x.f1 := by
 obtain ⟨_, _, rfl, rfl, ⟨A1, c1, rfl, l1, g1⟩⟩ := h
 exact ⟨A1, c1, rfl, l1, g1⟩
theorem VQ (w : World) (base : Nat) (ok : Nat → Prop) (x : S86) {v1 : Value} (g1 : k139.R 139 w base ok v1 x.f1) : k86.M w base ok x [.int .u32 x.f0, v1] := ⟨[.int .u32 x.f0], [v1], rfl, rfl, ⟨v1, rfl, g1⟩⟩
def iU (xs : List S86) (i : Int) : S86 := xs.getD i.toNat z86
theorem pJ {w : World} {A : Option Addr} {n : Nat} {xs : List S86} (h : Kd.C k86 w A n xs) (i : Int) (h0 : 0 ≤ i) (h1 : i < n) : ∃ ad A1 c1, A = some ad ∧ w.cell? (ad.add (i.toNat * 2)) = some (.int .u32 (iU xs i).f0) ∧ w.cell? ⟨(ad.add (i.toNat * 2)).block, (ad.add (i.toNat * 2)).off + 1, none⟩ = some (.slice A1 (iU xs i).f1.length c1) ∧ (iU xs i).f1.length ≤ c1 ∧ k139.C w A1 (iU xs i).f1.length (iU xs i).f1 := by
 obtain ⟨ad, c, e, _, hK, hc0⟩ := Kd.C_get h z86 i h0 h1
 have hc : ∀ j u, c[j]? = some u → w.cell? (ad.add (i.toNat * 2 + j)) = some u := hc0
 obtain ⟨A1, c1, rfl, l1, g1⟩ := WS hK
 exact ⟨ad, A1, c1, e, hc 0 _ rfl, by rw [← pU _ _ 1 (by omega)]; exact hc 1 _ rfl, l1, g1⟩
structure S98 where
 f0 : Int
 f1 : Int
def z98 : S98 := ⟨(0 : Int), (0 : Int)⟩
def k98 : Kd S98 := Kd.iso (Kd.pair (Kd.int .i64) (Kd.int .i64)) (fun x : S98 => (x.f0, x.f1))
theorem W9 {w : World} {x : S98} {cs : List Value} (h : k98.K w x cs) : cs = [.int .i64 x.f0, .int .i64 x.f1] := by
 obtain ⟨_, _, rfl, rfl, rfl⟩ := h
 exact rfl
theorem VD (w : World) (base : Nat) (ok : Nat → Prop) (x : S98)  : k98.M w base ok x [.int .i64 x.f0, .int .i64 x.f1] := ⟨[.int .i64 x.f0], [.int .i64 x.f1], rfl, rfl, rfl⟩
def kX (xs : List S98) (i : Int) : S98 := xs.getD i.toNat z98
theorem zM {w : World} {A : Option Addr} {n : Nat} {xs : List S98} (h : Kd.C k98 w A n xs) (i : Int) (h0 : 0 ≤ i) (h1 : i < n) : ∃ ad , A = some ad ∧ w.cell? (ad.add (i.toNat * 2)) = some (.int .i64 (kX xs i).f0) ∧ w.cell? ⟨(ad.add (i.toNat * 2)).block, (ad.add (i.toNat * 2)).off + 1, none⟩ = some (.int .i64 (kX xs i).f1) := by
 obtain ⟨ad, c, e, _, hK, hc0⟩ := Kd.C_get h z98 i h0 h1
 have hc : ∀ j u, c[j]? = some u → w.cell? (ad.add (i.toNat * 2 + j)) = some u := hc0
 obtain rfl := W9 hK
 exact ⟨ad, e, hc 0 _ rfl, by rw [← pU _ _ 1 (by omega)]; exact hc 1 _ rfl⟩
end Go.Proofs.YtgfkgppomaapiaaDoor.K
end

section
namespace Go.Proofs.YtgfkgppomaapiaaDoor.K
open Go.RowKit Go.Proofs.YtgfkgppomaapiaaDoorW.PrintWords
abbrev jP := S139
abbrev jI := S86
abbrev kG := S98
structure SMap where
 f0 : Int
 f1 : List kG
structure SRec where
 f0 : Int
 f1 : Int
 f2 : Int
 f3 : List Int
 f4 : List jP
 f5 : SMap
 f6 : Int
 f7 : Int
 f8 : List jI
def layB (x : Int) : Nat → List UInt8
 | 0 => []
 | n + 1 => UInt8.ofNat ((x / 256 ^ n) % 256).toNat :: layB x n
theorem iT (x : Int) : ∀ n, (layB x n).length = n
 | 0 => rfl
 | n + 1 => by simp [layB, iT x n]
def numB (l : List UInt8) : Nat := l.foldl (fun n c => n * 256 + c.toNat) 0
theorem RG (l : List UInt8) : ∀ k : Nat, l.foldl (fun n c => n * 256 + c.toNat) k = k * 256 ^ l.length + numB l := by
 induction l with
 | nil => intro k; simp [numB]
 | cons c l ih =>
  intro k
  unfold numB
  simp only [List.foldl_cons, List.length_cons, Nat.zero_mul, Nat.zero_add]
  rw [ih, ih c.toNat, Nat.pow_succ, Nat.add_mul, Nat.mul_assoc, Nat.mul_comm 256, Nat.add_assoc]
theorem LU (c : UInt8) (l : List UInt8) : numB (c :: l) = c.toNat * 256 ^ l.length + numB l := by
 show List.foldl _ _ (c :: l) = _
 simp only [List.foldl_cons, Nat.zero_mul, Nat.zero_add]
 rw [RG]
theorem V9 (l : List UInt8) (c : UInt8) : numB (l ++ [c]) = numB l * 256 + c.toNat := by
 unfold numB; rw [List.foldl_append]; rfl
theorem JV (l : List UInt8) : numB l < 256 ^ l.length := by
 induction l with
 | nil => simp [numB]
 | cons c l ih =>
  rw [LU, List.length_cons, Nat.pow_succ]
  have := c.toNat_lt
  have : (c.toNat + 1) * 256 ^ l.length ≤ 256 * 256 ^ l.length := Nat.mul_le_mul_right _ (by omega)
  rw [Nat.add_mul] at this
  rw [Nat.mul_comm (256 ^ l.length)]
  omega
theorem V5 (x : Int) (n : Nat) : x % 256 ^ (n + 1) = ((x / 256 ^ n) % 256) * 256 ^ n + x % 256 ^ n := by
 have hp : (0 : Int) < 256 ^ n := Int.pow_pos (by decide)
 rw [Int.pow_succ]
 have h1 := Int.mul_ediv_add_emod x (256 ^ n)
 have h2 := Int.mul_ediv_add_emod (x / 256 ^ n) 256
 have h3 := Int.emod_nonneg (x / 256 ^ n) (by decide : (256 : Int) ≠ 0)
 have h4 := Int.emod_lt_of_pos (x / 256 ^ n) (by decide : (0 : Int) < 256)
 have h5 := Int.emod_nonneg x (Int.ne_of_gt hp)
 have h6 := Int.emod_lt_of_pos x hp
 have e : x = ((x / 256 ^ n) % 256 * 256 ^ n + x % 256 ^ n) + (256 ^ n * 256) * (x / 256 ^ n / 256) := by
  conv => lhs; rw [← h1, ← h2]
  rw [Int.mul_add, Int.mul_assoc, Int.mul_comm (256 ^ n) ((x / 256 ^ n) % 256)]
  omega
 conv => lhs; rw [e]
 rw [Int.add_mul_emod_self_left]
 have h7 : (x / 256 ^ n) % 256 * 256 ^ n ≤ 255 * 256 ^ n := Int.mul_le_mul_of_nonneg_right (by omega) (Int.le_of_lt hp)
 have h8 : 0 ≤ (x / 256 ^ n) % 256 * 256 ^ n := Int.mul_nonneg h3 (Int.le_of_lt hp)
 exact Int.emod_eq_of_lt (by omega) (by omega)
theorem LQ (x : Int) : ∀ n, (numB (layB x n) : Int) = x % 256 ^ n
 | 0 => by rw [Int.pow_zero]; show ((0 : Nat) : Int) = x % 1; omega
 | n + 1 => by
  have h3 := Int.emod_nonneg (x / 256 ^ n) (by decide : (256 : Int) ≠ 0)
  have h4 := Int.emod_lt_of_pos (x / 256 ^ n) (by decide : (0 : Int) < 256)
  rw [layB, LU, iT, V5]
  simp only [Int.natCast_add, Int.natCast_mul, Int.natCast_pow]
  rw [LQ x n]
  congr 1
  congr 1
  rw [UInt8.toNat_ofNat']
  have : ((x / 256 ^ n) % 256).toNat % 2 ^ 8 = ((x / 256 ^ n) % 256).toNat := Nat.mod_eq_of_lt (by omega)
  rw [this]
  omega
def number (size : Nat) (b : List UInt8) : Option (Nat × List UInt8) := if b.length < size then none else some (numB (b.take size), b.drop size)
def many (size least : Nat) (b : List UInt8) : Option (Nat × List UInt8) := (number size b).bind fun x => if x.1 > x.2.length / least then none else some x
def repP {α : Type} (p : List UInt8 → Option (α × List UInt8)) : Nat → List UInt8 → Option (List α × List UInt8)
 | 0, b => some ([], b)
 | n + 1, b => (p b).bind fun x => (repP p n x.2).bind fun y => some (x.1 :: y.1, y.2)
def intP (size : Nat) (b : List UInt8) : Option (Int × List UInt8) := (number size b).bind fun x => some ((x.1 : Int), x.2)
def s64 (n : Nat) : Int := if n < 9223372036854775808 then (n : Int) else (n : Int) - 18446744073709551616
def oN (b : List UInt8) : Option (List Int × List UInt8) := (many 1 1 b).bind fun x => repP (intP 1) x.1 x.2
def uA (b : List UInt8) : Option (jP × List UInt8) := (many 1 4 b).bind fun x => (repP (intP 4) x.1 x.2).bind fun y => (number 8 y.2).bind fun z => some (⟨y.1, s64 z.1⟩, z.2)
def nX (b : List UInt8) : Option (List jP × List UInt8) := (many 4 9 b).bind fun x => repP uA x.1 x.2
def pF (b : List UInt8) : Option (jI × List UInt8) := (intP 4 b).bind fun x => (nX x.2).bind fun y => some (⟨x.1, y.1⟩, y.2)
def mO (b : List UInt8) : Option (List jI × List UInt8) := (many 4 8 b).bind fun x => repP pF x.1 x.2
def vX (b : List UInt8) : Option (kG × List UInt8) := (intP 4 b).bind fun x => (intP 1 x.2).bind fun y => some (⟨x.1, y.1⟩, y.2)
def qK (b : List UInt8) : Option (List kG × List UInt8) := (many 1 5 b).bind fun x => repP vX x.1 x.2
def xI (k id : Int) (b : List UInt8) : Option (SRec × List UInt8) :=
 if k = 1 then (oN b).bind fun x => (nX x.2).bind fun y => some (⟨k, id, 0, x.1, y.1, ⟨0, []⟩, 0, 0, []⟩, y.2)
 else if k = 2 then (intP 4 b).bind fun x => (oN x.2).bind fun y => some (⟨k, id, x.1, y.1, [], ⟨0, []⟩, 0, 0, []⟩, y.2)
 else if k = 6 then (intP 4 b).bind fun x => (qK x.2).bind fun y => some (⟨k, id, 0, [], [], ⟨x.1, y.1⟩, 0, 0, []⟩, y.2)
 else if k = 7 then (intP 4 b).bind fun x => (intP 4 x.2).bind fun y => (mO y.2).bind fun z => some (⟨k, id, 0, [], [], ⟨0, []⟩, x.1, y.1, z.1⟩, z.2)
 else some (⟨k, id, 0, [], [], ⟨0, []⟩, 0, 0, []⟩, b)
def recP (b : List UInt8) : Option (SRec × List UInt8) := (intP 1 b).bind fun x => (intP 4 x.2).bind fun y => xI x.1 y.1 y.2
def rY (l : List Int) : List UInt8 := layB l.length 1 ++ l.flatMap (layB · 1)
def nG (f : jP) : List UInt8 := layB f.f0.length 1 ++ f.f0.flatMap (layB · 4) ++ layB f.f1 8
def kK (l : List jP) : List UInt8 := layB l.length 4 ++ l.flatMap nG
def lJ (e : jI) : List UInt8 := layB e.f0 4 ++ kK e.f1
def jV (l : List jI) : List UInt8 := layB l.length 4 ++ l.flatMap lJ
def oO (s : kG) : List UInt8 := layB s.f0 4 ++ layB s.f1 1
def PO (l : List kG) : List UInt8 := layB l.length 1 ++ l.flatMap oO
def JI (r : SRec) : List UInt8 :=
 if r.f0 = 1 then rY r.f3 ++ kK r.f4
 else if r.f0 = 2 then layB r.f2 4 ++ rY r.f3
 else if r.f0 = 6 then layB r.f5.f0 4 ++ PO r.f5.f1
 else if r.f0 = 7 then layB r.f6 4 ++ (layB r.f7 4 ++ jV r.f8)
 else []
def recE (r : SRec) : List UInt8 := layB r.f0 1 ++ (layB r.f1 4 ++ JI r)
def lT (last : Int) : List Int → Bool
 | [] => true
 | n :: l => last < n && n < 6 && lT n l
def oV (f : jP) : Bool := f.f0.length ≤ 4 && f.f0.all fun v => 0 ≤ v && v ≤ 9999
def mV (l : List jP) : Bool := l.length ≤ 200 && l.all oV
def oQ (p : Option Int) : List jI → Bool
 | [] => true
 | e :: l => mV e.f1 && (match p with | none => true | some q => decide (q < e.f0)) && oQ (some e.f0) l
def nS (l : List jI) : Bool := oQ none l
def oK (s : kG) : Bool := 0 ≤ s.f0 && s.f0 ≤ 9999 && 0 ≤ s.f1 && s.f1 < 6
def kC (r : SRec) : Bool :=
 if r.f0 = 1 then lT (-1) r.f3 && mV r.f4 && r.f2 == 0 && r.f5.f0 == 0 && r.f5.f1.isEmpty && r.f6 == 0 && r.f7 == 0 && r.f8.isEmpty
 else if r.f0 = 2 then lT (-1) r.f3 && r.f4.isEmpty && r.f5.f0 == 0 && r.f5.f1.isEmpty && r.f6 == 0 && r.f7 == 0 && r.f8.isEmpty
 else if r.f0 = 3 || r.f0 = 4 || r.f0 = 5 then r.f2 == 0 && r.f3.isEmpty && r.f4.isEmpty && r.f5.f0 == 0 && r.f5.f1.isEmpty && r.f6 == 0 && r.f7 == 0 && r.f8.isEmpty
 else if r.f0 = 6 then r.f1 == 0 && r.f5.f1.length ≤ 40 && r.f5.f1.all oK && r.f2 == 0 && r.f3.isEmpty && r.f4.isEmpty && r.f6 == 0 && r.f7 == 0 && r.f8.isEmpty
 else if r.f0 = 7 then nS r.f8 && r.f8.length ≤ 5000 && 0 ≤ r.f6 && r.f6 ≤ 10000 && 0 ≤ r.f7 && r.f7 ≤ 10000 && r.f2 == 0 && r.f3.isEmpty && r.f4.isEmpty && r.f5.f0 == 0 && r.f5.f1.isEmpty
 else false
def JW (f : jP) : Prop := -9223372036854775808 ≤ f.f1 ∧ f.f1 < 9223372036854775808
def JG (e : jI) : Prop := 0 ≤ e.f0 ∧ e.f0 < 4294967296 ∧ ∀ f ∈ e.f1, JW f
structure zQ (r : SRec) : Prop where
 kind : 0 ≤ r.f0 ∧ r.f0 < 256
 id : 0 ≤ r.f1 ∧ r.f1 < 4294967296
 at_ : 0 ≤ r.f2 ∧ r.f2 < 4294967296
 facts : ∀ f ∈ r.f4, JW f
 epoch : 0 ≤ r.f5.f0 ∧ r.f5.f0 < 4294967296
 entries : ∀ e ∈ r.f8, JG e
theorem IK (x : Int) (n : Nat) (t : List UInt8) : number n (layB x n ++ t) = some ((x % 256 ^ n).toNat, t) := by
 unfold number
 rw [if_neg (by rw [List.length_append, iT]; omega)]
 have h1 : (layB x n ++ t).take n = layB x n := by rw [List.take_append_of_le_length (by rw [iT]; exact Nat.le_refl _), List.take_of_length_le (by rw [iT]; exact Nat.le_refl _)]
 have h2 : (layB x n ++ t).drop n = t := by
  have := @List.drop_left _ (layB x n) t
  rwa [iT] at this
 rw [h1, h2]
 have := LQ x n
 congr 2
 omega
theorem xK (x : Int) (n : Nat) (t : List UInt8) (h0 : 0 ≤ x) (h1 : x < 256 ^ n) : number n (layB x n ++ t) = some (x.toNat, t) := by
 rw [IK, Int.emod_eq_of_lt h0 h1]
theorem mW (x : Int) (n : Nat) (t : List UInt8) (h0 : 0 ≤ x) (h1 : x < 256 ^ n) : intP n (layB x n ++ t) = some (x, t) := by
 unfold intP
 rw [xK x n t h0 h1]
 simp only [Option.bind_some]
 rw [Int.toNat_of_nonneg h0]
theorem ZT (v : Int) (h0 : -9223372036854775808 ≤ v) (h1 : v < 9223372036854775808) : s64 (v % 256 ^ 8).toNat = v := by
 unfold s64
 have e : (256 : Int) ^ 8 = 18446744073709551616 := by decide
 rw [e]
 split <;> omega
theorem uM (x size least : Nat) (t : List UInt8) (h1 : (x : Int) < 256 ^ size) (h : x * least ≤ t.length) (hl : 0 < least) : many size least (layB (x : Int) size ++ t) = some (x, t) := by
 unfold many
 rw [xK _ _ _ (by omega) h1]
 simp only [Option.bind_some, Int.toNat_natCast]
 rw [if_neg]
 have : x ≤ t.length / least := (Nat.le_div_iff_mul_le hl).2 h
 omega
theorem rU {α : Type} (p : List UInt8 → Option (α × List UInt8)) (enc : α → List UInt8) : ∀ (l : List α) (t : List UInt8), (∀ x ∈ l, ∀ t, p (enc x ++ t) = some (x, t)) → repP p l.length (l.flatMap enc ++ t) = some (l, t)
 | [], t, _ => by simp [repP]
 | x :: l, t, h => by
  rw [List.flatMap_cons, List.append_assoc, List.length_cons, repP, h x List.mem_cons_self]
  simp only [Option.bind_some]
  rw [rU p enc l t (fun y hy => h y (List.mem_cons_of_mem _ hy))]
  rfl
theorem rJ {α : Type} (enc : α → List UInt8) (m : Nat) : ∀ l : List α, (∀ x ∈ l, m ≤ (enc x).length) → l.length * m ≤ (l.flatMap enc).length
 | [], _ => by simp
 | x :: l, h => by
  rw [List.flatMap_cons, List.length_append, List.length_cons, Nat.add_mul]
  have h1 := h x List.mem_cons_self
  have h2 := rJ enc m l (fun y hy => h y (List.mem_cons_of_mem _ hy))
  omega
theorem uH : ∀ (l : List Int) (last : Int), lT last l = true → -1 ≤ last → (∀ n ∈ l, last < n ∧ n < 6) ∧ (l.length : Int) ≤ max 0 (5 - last)
 | [], last, _, _ => ⟨(fun _ h => by cases h), by simp; omega⟩
 | n :: l, last, h, h1 => by
  unfold lT at h
  simp only [Bool.and_eq_true, decide_eq_true_eq] at h
  obtain ⟨⟨ha, hb⟩, hc⟩ := h
  obtain ⟨i1, i2⟩ := uH l n hc (by omega)
  refine ⟨fun m hm => ?_, by simp only [List.length_cons]; omega⟩
  rcases List.mem_cons.1 hm with rfl | hm
  ·exact ⟨ha, hb⟩
  ·have := i1 m hm; omega
theorem II (l : List Int) (t : List UInt8) (h : lT (-1) l = true) : oN (rY l ++ t) = some (l, t) := by
 obtain ⟨h1, h2⟩ := uH l (-1) h (by omega)
 unfold oN rY
 rw [List.append_assoc, uM _ 1 1 _ (by simp; omega) (by rw [List.length_append]; have := rJ (layB · 1) 1 l (fun x _ => by rw [iT]; exact Nat.le_refl _); omega) (by omega)]
 simp only [Option.bind_some]
 exact rU _ _ l t (fun x hx t => mW x 1 t (by have := h1 x hx; omega) (by have := h1 x hx; simp; omega))
theorem vH (f : jP) : (nG f).length = 9 + 4 * f.f0.length := by
 unfold nG
 simp only [List.length_append, iT]
 have : ∀ l : List Int, (l.flatMap (layB · 4)).length = 4 * l.length := by
  intro l
  induction l with
  | nil => rfl
  | cons x l ih => rw [List.flatMap_cons, List.length_append, ih, iT, List.length_cons]; omega
 rw [this]
 omega
theorem UF (f : jP) (t : List UInt8) (h : oV f = true) (hk : JW f) : uA (nG f ++ t) = some (f, t) := by
 unfold oV at h
 simp only [Bool.and_eq_true, decide_eq_true_eq, List.all_eq_true] at h
 obtain ⟨h1, h2⟩ := h
 unfold uA nG
 rw [List.append_assoc, List.append_assoc, uM _ 1 4 _ (by simp; omega) (by rw [List.length_append]; have := rJ (layB · 4) 4 f.f0 (fun x _ => by rw [iT]; exact Nat.le_refl _); omega) (by omega)]
 simp only [Option.bind_some]
 rw [rU _ _ f.f0 _ (fun x hx t => mW x 4 t (h2 x hx).1 (by have := (h2 x hx).2; simp; omega))]
 simp only [Option.bind_some]
 rw [IK]
 simp only [Option.bind_some]
 rw [ZT _ hk.1 hk.2]
theorem I7 (l : List jP) (t : List UInt8) (h : mV l = true) (hk : ∀ f ∈ l, JW f) : nX (kK l ++ t) = some (l, t) := by
 unfold mV at h
 simp only [Bool.and_eq_true, decide_eq_true_eq, List.all_eq_true] at h
 obtain ⟨h1, h2⟩ := h
 unfold nX kK
 rw [List.append_assoc, uM _ 4 9 _ (by simp; omega) (by rw [List.length_append]; have := rJ nG 9 l (fun x _ => by rw [vH]; omega); omega) (by omega)]
 simp only [Option.bind_some]
 exact rU _ _ l t (fun x hx t => UF x t (h2 x hx) (hk x hx))
theorem xQ : ∀ (l : List jI) (p : Option Int), oQ p l = true → ∀ e ∈ l, mV e.f1 = true
 | [], _, _, _, h => by cases h
 | e :: l, p, h, x, hx => by
  unfold oQ at h
  simp only [Bool.and_eq_true] at h
  rcases List.mem_cons.1 hx with rfl | hx
  ·exact h.1.1
  ·exact xQ l _ h.2 x hx
theorem yR (l : List jI) (h : nS l = true) : ∀ e ∈ l, mV e.f1 = true := xQ l none h
theorem QZ (e : jI) (t : List UInt8) (h : mV e.f1 = true) (hk : JG e) : pF (lJ e ++ t) = some (e, t) := by
 unfold pF lJ
 rw [List.append_assoc, mW _ 4 _ hk.1 (by have := hk.2.1; simp; omega)]
 simp only [Option.bind_some]
 rw [I7 _ _ h hk.2.2]
 rfl
theorem MW (l : List jI) (t : List UInt8) (h : nS l = true) (h5 : l.length ≤ 5000) (hk : ∀ e ∈ l, JG e) : mO (jV l ++ t) = some (l, t) := by
 have h2 := yR l h
 unfold mO jV
 rw [List.append_assoc, uM _ 4 8 _ (by simp; omega) (by rw [List.length_append]; have := rJ lJ 8 l (fun x _ => by unfold lJ kK; simp only [List.length_append, iT]; omega); omega) (by omega)]
 simp only [Option.bind_some]
 exact rU _ _ l t (fun x hx t => QZ x t (h2 x hx) (hk x hx))
theorem U2 (s : kG) (t : List UInt8) (h : oK s = true) : vX (oO s ++ t) = some (s, t) := by
 unfold oK at h
 simp only [Bool.and_eq_true, decide_eq_true_eq] at h
 unfold vX oO
 rw [List.append_assoc, mW _ 4 _ (by omega) (by simp; omega)]
 simp only [Option.bind_some]
 rw [mW _ 1 _ (by omega) (by simp; omega)]
 rfl
theorem QH (l : List kG) (t : List UInt8) (h : l.length ≤ 40) (h2 : ∀ s ∈ l, oK s = true) : qK (PO l ++ t) = some (l, t) := by
 unfold qK PO
 rw [List.append_assoc, uM _ 1 5 _ (by simp; omega) (by rw [List.length_append]; have := rJ oO 5 l (fun x _ => by unfold oO; simp only [List.length_append, iT]; omega); omega) (by omega)]
 simp only [Option.bind_some]
 exact rU _ _ l t (fun x hx t => U2 x t (h2 x hx))
theorem kY {α : Type} {l : List α} (h : l.isEmpty = true) : l = [] := List.isEmpty_iff.1 h
theorem VZ (r : SRec) (t : List UInt8) (h : kC r = true) (hk : zQ r) : recP (recE r ++ t) = some (r, t) := by
 obtain ⟨k, id, at_, nodes, facts, ⟨ep, sp⟩, from_, to_, en⟩ := r
 obtain ⟨hkind, hid, hat, hfacts, hep, hen⟩ := hk
 simp only at hkind hid hat hfacts hep hen
 unfold recP recE
 simp only
 rw [List.append_assoc, mW _ 1 _ hkind.1 (by simp; omega)]
 simp only [Option.bind_some]
 rw [List.append_assoc, mW _ 4 _ hid.1 (by simp; omega)]
 simp only [Option.bind_some]
 unfold kC at h
 simp only at h
 unfold xI JI
 simp only
 by_cases h1 : k = 1
 ·rw [if_pos h1] at h ⊢
  rw [if_pos h1]
  simp only [Bool.and_eq_true, beq_iff_eq] at h
  obtain ⟨⟨⟨⟨⟨⟨⟨ha, hb⟩, rfl⟩, rfl⟩, hd⟩, rfl⟩, rfl⟩, hg⟩ := h
  rw [kY hd, kY hg, List.append_assoc, II _ _ ha]
  simp only [Option.bind_some]
  rw [I7 _ _ hb hfacts]
  rfl
 rw [if_neg h1] at h ⊢
 rw [if_neg h1]
 by_cases h2 : k = 2
 ·rw [if_pos h2] at h ⊢
  rw [if_pos h2]
  simp only [Bool.and_eq_true, beq_iff_eq] at h
  obtain ⟨⟨⟨⟨⟨⟨ha, hb⟩, rfl⟩, hd⟩, rfl⟩, rfl⟩, hg⟩ := h
  rw [kY hd, kY hg, kY hb, List.append_assoc, mW _ 4 _ hat.1 (by simp; omega)]
  simp only [Option.bind_some]
  rw [II _ _ ha]
  rfl
 rw [if_neg h2] at h ⊢
 rw [if_neg h2]
 by_cases h3 : (decide (k = 3) || decide (k = 4) || decide (k = 5)) = true
 ·rw [if_pos h3] at h
  have h3' : k = 3 ∨ k = 4 ∨ k = 5 := by
   simp only [Bool.or_eq_true, decide_eq_true_eq] at h3
   omega
  rw [if_neg (by omega), if_neg (by omega), if_neg (by omega), if_neg (by omega)]
  simp only [Bool.and_eq_true, beq_iff_eq] at h
  obtain ⟨⟨⟨⟨⟨⟨⟨rfl, ha⟩, hb⟩, rfl⟩, hd⟩, rfl⟩, rfl⟩, hg⟩ := h
  rw [kY ha, kY hb, kY hd, kY hg]
  rfl
 rw [if_neg h3] at h
 by_cases h6 : k = 6
 ·rw [if_pos h6] at h ⊢
  rw [if_pos h6]
  simp only [Bool.and_eq_true, beq_iff_eq, decide_eq_true_eq, List.all_eq_true] at h
  obtain ⟨⟨⟨⟨⟨⟨⟨⟨rfl, ha⟩, hb⟩, rfl⟩, hc⟩, hd⟩, rfl⟩, rfl⟩, hg⟩ := h
  rw [kY hc, kY hd, kY hg, List.append_assoc, mW _ 4 _ hep.1 (by simp; omega)]
  simp only [Option.bind_some]
  rw [QH _ _ ha hb]
  rfl
 rw [if_neg h6] at h ⊢
 rw [if_neg h6]
 by_cases h7 : k = 7
 ·rw [if_pos h7] at h ⊢
  rw [if_pos h7]
  simp only [Bool.and_eq_true, beq_iff_eq, decide_eq_true_eq] at h
  obtain ⟨⟨⟨⟨⟨⟨⟨⟨⟨⟨ha, hb⟩, hc⟩, hd⟩, he⟩, hf⟩, rfl⟩, hg⟩, hi⟩, rfl⟩, hj⟩ := h
  rw [kY hg, kY hi, kY hj, List.append_assoc, List.append_assoc, mW _ 4 _ hc (by simp; omega)]
  simp only [Option.bind_some]
  rw [mW _ 4 _ he (by simp; omega)]
  simp only [Option.bind_some]
  rw [MW _ _ ha hb hen]
  rfl
 rw [if_neg h7] at h
 cases h
end Go.Proofs.YtgfkgppomaapiaaDoor.K
end

section
namespace Go.Proofs.YtgfkgppomaapiaaDoor.K
open RowKit YtgfkgppomaapiaaDoorW.PrintWords YtgfkgppomaapiaaDoorW.PrintLast YtgfkgppomaapiaaDoorW.PrintMore My
def IJ : List PanicEntry := [{ v := .iface 148 (.agg #[]), recovered := false }]
def Rd (w0 w : World) (g : Nat) (l : List UInt8) : Prop := ∃ A c, w.heap[g]? = some (.cells #[.slice A l.length c] 151 (0, 0)) ∧ l.length ≤ c ∧ kb.C w0 A l.length l
theorem Rd.grown {w0 w w' : World} {g : Nat} {l : List UInt8} (h : Rd w0 w g l) {row : Option Nat} (hg : w.grownBy w' row) (hne : some g ≠ row) : Rd w0 w' g l := by
 obtain ⟨A, c, hb, hc, hC⟩ := h
 exact ⟨A, c, (hg.block g (jU hb) hne).trans hb, hc, hC⟩
theorem Rd.lt {w0 w : World} {g : Nat} {l : List UInt8} (h : Rd w0 w g l) : g < w.heap.size := by
 obtain ⟨A, c, hb, _⟩ := h
 exact jU hb
theorem RV (w : World) (row : Option Nat) : w.grownBy w row := ⟨rfl, rfl, rfl, Nat.le_refl _, fun _ _ _ => rfl⟩
theorem jE {a w w' : World} {row : Option Nat} (h : a.grownBy w row) (k : w.grownBy w' row) : a.grownBy w' row :=
 ⟨k.os.trans h.os, k.tape.trans h.tape, k.output.trans h.output, Nat.le_trans h.size k.size, fun i hi hne => (k.block i (Nat.lt_of_lt_of_le hi h.size) hne).trans (h.block i hi hne)⟩
theorem LG (w : World) (g i : Nat) (v : Value) : w.grownBy (w.setCell ⟨g, i, none⟩ v) (some g) :=
 ⟨rfl, rfl, rfl, by simp [World.setCell], fun k _ hne => Below.heap_setCell _ _ _ _ (fun e => hne (by rw [e]))⟩
theorem grown_below {w w' : World} {row : Option Nat} (h : Below w.heap.size w w') : w.grownBy w' row := ⟨h.os, h.tape, h.output, h.size, fun k hk _ => h.block k hk⟩
theorem below_grown {B : Nat} {w0 w w' : World} {g : Nat} (h : Below B w0 w) (hg : w.grownBy w' (some g)) (hB : B ≤ g) (h0 : B ≤ w0.heap.size) : Below B w0 w' :=
 ⟨hg.os.trans h.os, hg.tape.trans h.tape, hg.output.trans h.output, Nat.le_trans h.size hg.size, fun k hk => (hg.block k (by have := h.size; omega) (fun e => by injection e with e; omega)).trans (h.block k hk)⟩
theorem zU (l : List UInt8) (k : Nat) (h : k < l.length) : numB (l.take (k + 1)) = numB (l.take k) * 256 + (l.getD k 0).toNat := by
 rw [lH 0 l k h, V9]
theorem MJ (l : List UInt8) (k : Nat) (h : k ≤ 7) : numB (l.take k) < 72057594037927936 := by
 have h1 := JV (l.take k)
 have h2 : (l.take k).length ≤ 7 := by rw [List.length_take]; omega
 have h3 : 256 ^ (l.take k).length ≤ 256 ^ 7 := Nat.pow_le_pow_right (by decide) h2
 have h4 : 256 ^ 7 = 72057594037927936 := by decide
 omega
theorem j3_ (n : Nat) (c : UInt8) (h : n < 72057594037927936) : bits .or .u64 ((n : Int) * 256) (c.toNat : Int) = ((n * 256 + c.toNat : Nat) : Int) := by
 have hc := c.toNat_lt
 rw [show ((n : Int) * 256) = ((n * 256 : Nat) : Int) by omega, u64_or_nat _ _ (by omega) (by omega)]
 congr 1
 have := Nat.shiftLeft_add_eq_or_of_lt (i := 8) (show c.toNat < 2 ^ 8 by omega) n
 rw [Nat.shiftLeft_eq] at this
 exact this.symm
set_option maxHeartbeats 2000000 in
theorem mY (s : Nat) (S : Int) (hS : S = s) (hs8 : s ≤ 8) (g : Nat) (l : List UInt8) (w0 w : World) (h : Rd w0 w g l) (hb : Below w0.heap.size w0 w) (hl : s ≤ l.length) :
  Calls Tryd.prog 119 #[.pointer (some ⟨g, 0, none⟩), .int .i64 S] w fun e w' => e = .returned (.int .u64 (numB (l.take s) : Int)) ∧ Rd w0 w' g (l.drop s) ∧ w.grownBy w' (some g) := by
 subst hS
 obtain ⟨A, c, hblk, hc, hC⟩ := h
 have HBL := iC.mk hblk
 have HB := iC.mk hb
 have hm := lC hC
 have HC := iC.mk hC
 have z0 : w.cell? ⟨g, 0, none⟩ = some (.slice A l.length c) := (iE hblk 0).trans rfl
 have f0 : w.frozen? ⟨g, 0, none⟩ = false := iD hblk 0
 have hcut := je7 A l.length c s (s : Int) rfl hl hc
 obtain ⟨A2, hcut2, hC2⟩ := je3 hC hc s (s : Int) rfl hl
 have HC2 := iC.mk hC2
 have hnot : ¬ (l.length : Int) < (s : Int) := by omega
 clear hblk hb hC hC2
 go_enter Tryd.func119, Tryd.ntmps119
 go_wp2
 go_loop [5, 24] (fun n i => ∃ k : Nat, k ≤ s ∧ i = .int .i64 k ∧ n = .int .u64 (numB (l.take k) : Int)) (fun _ i => s - (intOf i).toNat)
 case atStart => exact ⟨0, Nat.zero_le _, rfl, rfl⟩
 case round =>
  obtain ⟨k, hk, rfl, rfl⟩ := hrel
  by_cases hlt : k < s
  ·obtain ⟨ad, rfl, hx⟩ := C_at (Kd.C_below HC.out HB.out) k (by omega)
   have hsn := iC.mk (zU l k (by omega))
   have hn := MJ l k (by omega)
   generalize l.getD k 0 = cb at hx hsn
   have HOR := iC.mk (j3_ (numB (l.take k)) cb hn)
   obtain ⟨n, hnn⟩ : ∃ n, n = numB (l.take k) := ⟨_, rfl⟩
   rw [← hnn] at hn HOR hsn ⊢
   clear hnn
   have hnI : (n : Int) < 72057594037927936 := by omega
   clear hn
   have hcb := cb.toNat_lt
   go_wp2
   go_round
   case rel => exact ⟨k + 1, by omega, by go_num, by rw [hsn.out, ← HOR.out]⟩
   case measure => simp [intOf]; omega
  ·obtain rfl : k = s := by omega
   go_wp2
   go_ret
   refine ⟨rfl, ⟨A2, c - k, ?_, by rw [List.length_drop]; omega, ?_⟩, LG _ _ _ _⟩
   ·rw [List.length_drop]
    exact (Lib.heap_setCell_same HBL.out _).trans rfl
   ·rw [List.length_drop]
    exact HC2.out
set_option maxHeartbeats 1000000 in
theorem kH (s : Nat) (S : Int) (hS : S = s) (g : Nat) (l : List UInt8) (w0 w : World) (h : Rd w0 w g l) (hl : l.length < s) :
  Calls Tryd.prog 119 #[.pointer (some ⟨g, 0, none⟩), .int .i64 S] w fun e w' => e = .panicked IJ ∧ w.grownBy w' (some g) := by
 subst hS
 obtain ⟨A, c, hblk, hc, hC⟩ := h
 have hm := lC hC
 have z0 : w.cell? ⟨g, 0, none⟩ = some (.slice A l.length c) := (iE hblk 0).trans rfl
 have f0 : w.frozen? ⟨g, 0, none⟩ = false := iD hblk 0
 have hyes : (l.length : Int) < (s : Int) := by omega
 clear hblk hC
 go_enter Tryd.func119, Tryd.ntmps119
 go_wp2
 exact ⟨rfl, rfl, RV _ _⟩
theorem nN {s : Nat} {l l' : List UInt8} {n : Nat} (h : number s l = some (n, l')) : s ≤ l.length ∧ n = numB (l.take s) ∧ l' = l.drop s := by
 unfold number at h
 split at h
 ·cases h
 ·injection h with h
  injection h with h1 h2
  exact ⟨by omega, h1.symm, h2.symm⟩
theorem rZ {s : Nat} {l : List UInt8} (h : number s l = none) : l.length < s := by
 unfold number at h
 split at h
 ·assumption
 ·cases h
theorem PE (a b : Nat) (h : a ≤ 9223372036854775807) : wrap64 ((a : Int) / (b : Int)) = (a : Int) / (b : Int) ∧ IntKind.u64.wrap ((a : Int) / (b : Int)) = (a : Int) / (b : Int) := by
 rw [← Int.natCast_ediv]
 have h1 : a / b ≤ a := Nat.div_le_self _ _
 generalize a / b = q at h1 ⊢
 constructor
 ·unfold wrap64; omega
 ·rw [IntKind.wrap_u64]; omega
set_option maxHeartbeats 2000000 in
theorem yX (s least : Nat) (S T : Int) (hS : S = s) (hT : T = least) (hs8 : s ≤ 8) (h1 : 1 ≤ least) (g : Nat) (l l' : List UInt8) (n : Nat) (w0 w : World) (h : Rd w0 w g l) (hb : Below w0.heap.size w0 w) (hg : w0.heap.size ≤ g) (hl : many s least l = some (n, l')) :
  Calls Tryd.prog 130 #[.pointer (some ⟨g, 0, none⟩), .int .i64 S, .int .i64 T] w fun e w' => e = .returned (.int .i64 (n : Int)) ∧ Rd w0 w' g l' ∧ w.grownBy w' (some g) ∧ n * least ≤ l'.length := by
 subst hT
 unfold many at hl
 obtain ⟨⟨m, r⟩, hn, hl⟩ := Option.bind_eq_some_iff.1 hl
 simp only at hl
 split at hl
 ·cases hl
 injection hl with hl
 injection hl with e1 e2
 subst e1; subst e2
 rename_i hle
 obtain ⟨hsl, hm, hr⟩ := nN hn
 have hle' : m * least ≤ r.length := by
  have : m ≤ r.length / least := by omega
  exact (Nat.le_div_iff_mul_le (by omega)).1 this
 have hmd : ¬ ((r.length : Int) / (least : Int)) < (m : Int) := by
  rw [← Int.natCast_ediv]
  omega
 have hcall := mY s S hS hs8 g l w0 w h hb hsl
 rw [← hm, ← hr] at hcall
 have HLE := iC.mk hle'
 clear hn hm hr hle hle' h hb hsl hS
 have hl1 : (1 : Int) ≤ (least : Int) := by omega
 go_enter Tryd.func130, Tryd.ntmps130
 go_wp2_with (go_at_call 119; refine hcall.mono ?_; rintro e w1 ⟨rfl, hR, hG⟩; obtain ⟨A1, c1, hblk, hc1, hC1⟩ := hR; have HBL := iC.mk hblk; have HC1 := iC.mk hC1; have hm1 := lC hC1; have z0 : w1.cell? ⟨g, 0, none⟩ = some (.slice A1 r.length c1) := (iE hblk 0).trans rfl; clear hblk hC1; obtain ⟨hq1, hq2⟩ := PE r.length least hm1; have hmr : (m : Int) ≤ 9223372036854775807 := by (have := HLE.out; have := Nat.le_mul_of_pos_right m (show 0 < least by omega); omega))
 go_ret
 exact ⟨rfl, ⟨A1, c1, HBL.out, hc1, HC1.out⟩, hG, HLE.out⟩
set_option maxHeartbeats 2000000 in
theorem pW (s least : Nat) (S T : Int) (hS : S = s) (hT : T = least) (hs8 : s ≤ 8) (h1 : 1 ≤ least) (g : Nat) (l : List UInt8) (w0 w : World) (h : Rd w0 w g l) (hb : Below w0.heap.size w0 w) (hg : w0.heap.size ≤ g) (hl : many s least l = none) :
  Calls Tryd.prog 130 #[.pointer (some ⟨g, 0, none⟩), .int .i64 S, .int .i64 T] w fun e w' => e = .panicked IJ ∧ w.grownBy w' (some g) := by
 subst hT
 unfold many at hl
 cases hn : number s l with
 | none =>
  have hcall := kH s S hS g l w0 w h (rZ hn)
  clear hn hl h hb hS
  go_enter Tryd.func130, Tryd.ntmps130
  go_wp2_with (go_at_call 119; refine hcall.mono ?_; rintro e w1 ⟨rfl, hG⟩)
  exact ⟨rfl, rfl, hG⟩
 | some x =>
  obtain ⟨m, r⟩ := x
  rw [hn] at hl
  simp only [Option.bind_some] at hl
  split at hl
  ·rename_i hgt
   obtain ⟨hsl, hm, hr⟩ := nN hn
   have hmd : ((r.length : Int) / (least : Int)) < (m : Int) := by
    rw [← Int.natCast_ediv]
    omega
   have hcall := mY s S hS hs8 g l w0 w h hb hsl
   rw [← hm, ← hr] at hcall
   clear hn hm hr hgt h hb hsl hS hl
   have hl1 : (1 : Int) ≤ (least : Int) := by omega
   go_enter Tryd.func130, Tryd.ntmps130
   go_wp2_with (go_at_call 119; refine hcall.mono ?_; rintro e w1 ⟨rfl, hR, hG⟩; obtain ⟨A1, c1, hblk, hc1, hC1⟩ := hR; have hm1 := lC hC1; have z0 : w1.cell? ⟨g, 0, none⟩ = some (.slice A1 r.length c1) := (iE hblk 0).trans rfl; clear hblk hC1; obtain ⟨hq1, hq2⟩ := PE r.length least hm1)
   exact ⟨rfl, rfl, hG⟩
  ·cases hl
end Go.Proofs.YtgfkgppomaapiaaDoor.K
end

section
namespace Go.Proofs.YtgfkgppomaapiaaDoor.K
open RowKit YtgfkgppomaapiaaDoorW.PrintWords YtgfkgppomaapiaaDoorW.PrintLast YtgfkgppomaapiaaDoorW.PrintMore My
def PP {α : Type} (res : Option (α × List UInt8)) (val : α → Value → World → Prop) (w0 w : World) (g : Nat) (e : Ending) (w' : World) : Prop :=
 w.grownBy w' (some g) ∧ ((∃ x l' v, res = some (x, l') ∧ e = .returned v ∧ val x v w' ∧ Rd w0 w' g l') ∨ (res = none ∧ e = .panicked IJ))
theorem PP.ok {α : Type} {res : Option (α × List UInt8)} {val : α → Value → World → Prop} {w0 w w' : World} {g : Nat} {e : Ending} {x : α} {l : List UInt8} (h : PP res val w0 w g e w') (hr : res = some (x, l)) : ∃ v, e = .returned v ∧ val x v w' ∧ Rd w0 w' g l ∧ w.grownBy w' (some g) := by
 obtain ⟨hg, ⟨x', l', v, h1, h2, h3, h4⟩ | ⟨h1, _⟩⟩ := h
 ·rw [hr] at h1
  injection h1 with h1
  injection h1 with h1 h5
  subst h1; subst h5
  exact ⟨v, h2, h3, h4, hg⟩
 ·rw [hr] at h1; cases h1
theorem PP.short {α : Type} {res : Option (α × List UInt8)} {val : α → Value → World → Prop} {w0 w w' : World} {g : Nat} {e : Ending} (h : PP res val w0 w g e w') (hr : res = none) : e = .panicked IJ ∧ w.grownBy w' (some g) := by
 obtain ⟨hg, ⟨x', l', v, h1, _⟩ | ⟨_, h2⟩⟩ := h
 ·rw [hr] at h1; cases h1
 ·exact ⟨h2, hg⟩
def RI (w : World) (base : Nat) (v : Value) (xs : List Int) : Prop := Kd.R (Kd.int .i64) 3 w base (fun _ => True) v xs
theorem kT {α : Type} {d : Kd α} {e : Nat} {w w1 : World} {base : Nat} {ok : Nat → Prop} {v : Value} {xs : List α} {g : Nat} (h : d.R e w base ok v xs) (hg : w.grownBy w1 (some g)) (hlt : g < base) : d.R e w1 base ok v xs :=
 Kd.R_mono (Kd.R_grown (Kd.R_bound h) hg (fun k hk e => by have := hk.2.1; injection e with e; omega)) (fun _ hk => hk.1)
theorem VF {α : Type} {d : Kd α} {e : Nat} {w : World} {base : Nat} {ok : Nat → Prop} {ad : Addr} {n cap : Nat} {xs : List α} (h : d.R e w base ok (.slice (some ad) n cap) xs) : ∃ g, ad = ⟨g, 0, none⟩ := Kd.R_head h
theorem j8_ {w : World} {base : Nat} {ad : Addr} {n c : Nat} {xs : List Int} (h : RI w base (.slice (some ad) n c) xs) (k : Nat) (hk : k < n) (x : Int) :
  (∃ old, w.cell? (ad.add k) = some old) ∧ w.frozen? (ad.add k) = false ∧ base ≤ ad.block ∧
  RI (w.setCell (ad.add k) (.int .i64 x)) base (.slice (some ad) n c) (xs.set k x) ∧ w.grownBy (w.setCell (ad.add k) (.int .i64 x)) (some ad.block) := by
 obtain ⟨g, rfl⟩ := VF h
 have ho := Kd.own_of_R (enc := Value.int .i64) (h1 := fun _ => rfl) h
 obtain ⟨hlen, _, hC⟩ := Kd.R_reads' h
 obtain ⟨A1, e1, hx⟩ := Kd.at_int hC (k : Int) (by omega) (by omega)
 injection e1 with e1
 subst e1
 rw [Int.toNat_natCast] at hx
 obtain ⟨cells, hc⟩ := mM ho g (by simp [Value.ownBlock])
 rw [← hlen] at ho
 obtain ⟨h2, h3⟩ := L6 ho (k : Int) x
 rw [Int.toNat_natCast] at h2 h3
 have ha : (⟨g, 0, none⟩ : Addr).add k = ⟨g, k, none⟩ := by rw [add_plain]
 rw [ha] at hx ⊢
 refine ⟨⟨_, hx⟩, iD hc k, ?_, Kd.R_of_own ?_ (fun _ _ => trivial), h3⟩
 ·exact Kd.R_base h g (by simp [Value.ownBlock])
 ·rw [List.length_set, ← hlen]
  exact h2
theorem YT {W : World} {n base : Nat} (hn : n ≤ 9223372036854775807) (hb : base ≤ W.heap.size) : RI (W.alloc (.cells (madeCells #[.int .i64 0] n) 3)) base (.slice (some ⟨W.heap.size, 0, none⟩) n n) (List.replicate n 0) := by
 refine Kd.R_of_own ?_ (fun _ _ => trivial)
 have h := World.ownsRow_lit (base := base) (e := 3) (size := 1) W (madeCells #[.int .i64 0] n) n hb (by unfold maxLen; omega) (by simp [madeCells])
 rw [List.length_replicate]
 have e : (madeCells #[.int .i64 0] n).toList = encs (Value.int .i64) (List.replicate n 0) := by
  apply List.ext_getElem
  ·simp [madeCells, encs]
  ·intro i h1 h2
   simp [madeCells, Nat.mod_one, encs]
 rw [← e]
 exact h
theorem lZ {w w1 w2 : World} {g b : Nat} (h : w.grownBy w1 (some g)) (k : w1.grownBy w2 (some b)) (hb : w.heap.size ≤ b) : w.grownBy w2 (some g) :=
 ⟨k.os.trans h.os, k.tape.trans h.tape, k.output.trans h.output, Nat.le_trans h.size k.size, fun i hi hne => (k.block i (Nat.lt_of_lt_of_le hi h.size) (fun e => by injection e with e; omega)).trans (h.block i hi hne)⟩
theorem yH {α : Type} (p : List UInt8 → Option (α × List UInt8)) (n : Nat) (b : List UInt8) : repP p (n + 1) b = (p b).bind fun x => (repP p n x.2).bind fun y => some (x.1 :: y.1, y.2) := rfl
def Left {α : Type} (p : List UInt8 → Option (α × List UInt8)) (n k : Nat) (l r : List UInt8) (done : List α) : Prop :=
 done.length = k ∧ repP p n l = (repP p (n - k) r).bind fun y => some (done ++ y.1, y.2)
theorem Left.start {α : Type} (p : List UInt8 → Option (α × List UInt8)) (n : Nat) (l : List UInt8) : Left p n 0 l l [] := by
 refine ⟨rfl, ?_⟩
 rw [Nat.sub_zero]
 cases repP p n l <;> rfl
theorem Left.next {α : Type} {p : List UInt8 → Option (α × List UInt8)} {n k : Nat} {l r r' : List UInt8} {done : List α} {x : α} (h : Left p n k l r done) (hk : k < n) (hp : p r = some (x, r')) : Left p n (k + 1) l r' (done ++ [x]) := by
 refine ⟨by rw [List.length_append, h.1]; rfl, ?_⟩
 rw [h.2, show n - k = (n - (k + 1)) + 1 by omega, yH, hp]
 simp only [Option.bind_some]
 cases repP p (n - (k + 1)) r' with
 | none => rfl
 | some y => simp
theorem Left.fail {α : Type} {p : List UInt8 → Option (α × List UInt8)} {n k : Nat} {l r : List UInt8} {done : List α} (h : Left p n k l r done) (hk : k < n) (hp : p r = none) : repP p n l = none := by
 rw [h.2, show n - k = (n - (k + 1)) + 1 by omega, yH, hp]
 rfl
theorem Left.done {α : Type} {p : List UInt8 → Option (α × List UInt8)} {n : Nat} {l r : List UInt8} {done : List α} (h : Left p n n l r done) : repP p n l = some (done, r) := by
 rw [h.2, Nat.sub_self]
 simp [repP]
theorem NL {α : Type} (z x : α) (done : List α) (n k : Nat) (hd : done.length = k) (hk : k < n) : (done ++ List.replicate (n - k) z).set k x = (done ++ [x]) ++ List.replicate (n - (k + 1)) z := by
 rw [List.set_append_right _ _ (by omega), hd, Nat.sub_self, show n - k = (n - (k + 1)) + 1 by omega, List.replicate_succ, List.set_cons_zero, List.append_assoc]
 rfl
theorem nR {s least n : Nat} {l r : List UInt8} (h : many s least l = some (n, r)) (h1 : 1 ≤ least) : r.length + s = l.length ∧ n * least ≤ r.length := by
 unfold many at h
 obtain ⟨⟨m, r'⟩, hn, hl⟩ := Option.bind_eq_some_iff.1 h
 simp only at hl
 split at hl
 ·cases hl
 injection hl with hl
 injection hl with e1 e2
 subst e1; subst e2
 rename_i hle
 obtain ⟨h3, _, rfl⟩ := nN hn
 refine ⟨by rw [List.length_drop]; omega, (Nat.le_div_iff_mul_le (by omega)).1 (by omega)⟩
theorem U8 (n : Nat) (h : n < 9223372036854775808) : wrap64 (n : Int) = (n : Int) := by unfold wrap64; omega
theorem uU {t e : TypeId} {z : Value} {size bytes : Nat} (ht : Tryd.prog.underlying t = some (.slice e)) (hinfo : (Tryd.prog.info? e).map (fun i => (i.zero, i.size, i.bytes)) = some (some z, size, bytes)) (hb : bytes ≤ 100000) (n : Nat) (hn : (n : Int) ≤ 100000) (W : World) :
  (Instr.makeSlice t (.int .i64 (n : Int)) (.int .i64 (n : Int))).run Tryd.prog W = .ok (.slice (some ⟨W.heap.size, 0, none⟩) n n) (W.alloc (.cells (madeCells z.cells (n * size)) e)) := by
 obtain ⟨i, hi, he⟩ := Option.map_eq_some_iff.1 hinfo
 simp only [Prod.mk.injEq] at he
 obtain ⟨h1, h2, h3⟩ := he
 have hbn : (i.bytes : Int) * (n : Int) ≤ 281474976710656 := by
  have h4 : (i.bytes : Int) ≤ 100000 := by omega
  have h5 : (i.bytes : Int) * (n : Int) ≤ 100000 * 100000 := Int.mul_le_mul h4 hn (by omega) (by omega)
  omega
 have := run_make W t e i z ht hi h1 .i64 .i64 (n : Int) (n : Int) (by omega) (by omega) hbn (by omega)
 rw [h2, Int.toNat_natCast] at this
 exact this
theorem oI {s : Nat} {l r : List UInt8} {x : Int} (h : intP s l = some (x, r)) : s ≤ l.length ∧ x = (numB (l.take s) : Int) ∧ r = l.drop s := by
 unfold intP at h
 obtain ⟨⟨m, r'⟩, hn, hl⟩ := Option.bind_eq_some_iff.1 h
 injection hl with hl
 injection hl with e1 e2
 subst e1; subst e2
 obtain ⟨h1, rfl, rfl⟩ := nN hn
 exact ⟨h1, rfl, rfl⟩
theorem mD {s : Nat} {l : List UInt8} (h : intP s l = none) : l.length < s := by
 unfold intP at h
 cases hn : number s l with
 | none => exact rZ hn
 | some x => rw [hn] at h; cases h
theorem rC (l : List UInt8) (s : Nat) (hs : s ≤ 4) : (numB (l.take s) : Int) < 4294967296 := by
 have h1 := JV (l.take s)
 have h2 : (l.take s).length ≤ 4 := by rw [List.length_take]; omega
 have h3 : 256 ^ (l.take s).length ≤ 256 ^ 4 := Nat.pow_le_pow_right (by decide) h2
 have h4 : 256 ^ 4 = 4294967296 := by decide
 omega
set_option maxRecDepth 20000 in
set_option maxHeartbeats 2000000 in
theorem rH (g : Nat) (l : List UInt8) (w0 w : World) (h : Rd w0 w g l) (hb : Below w0.heap.size w0 w) (hg : w0.heap.size ≤ g) (hm : (l.length : Int) ≤ 100000) :
  Calls Tryd.prog 120 #[.pointer (some ⟨g, 0, none⟩)] w (PP (oN l) (fun xs v w' => RI w' w.heap.size v xs) w0 w g) := by
 have HR := iC.mk h
 have HB := iC.mk hb
 have hlt := h.lt
 clear h hb
 cases hmy : many 1 1 l with
 | none =>
  have hn : oN l = none := by unfold oN; rw [hmy]; rfl
  have hcall := pW 1 1 1 1 rfl rfl (by omega) (by omega) g l w0 w HR.out HB.out hg hmy
  have HN := iC.mk hn
  clear hmy hn
  go_enter Tryd.func120, Tryd.ntmps120
  go_wp2_with (go_at_call 130; refine hcall.mono ?_; rintro e w1 ⟨rfl, hG⟩)
  exact ⟨rfl, hG, .inr ⟨HN.out, rfl⟩⟩
 | some x =>
  obtain ⟨n, r0⟩ := x
  have hn : oN l = repP (intP 1) n r0 := by unfold oN; rw [hmy]; rfl
  have hcall := yX 1 1 1 1 rfl rfl (by omega) (by omega) g l r0 n w0 w HR.out HB.out hg hmy
  have HN := iC.mk hn
  obtain ⟨hl1, hl2⟩ := nR hmy (by omega)
  have hn1 : (n : Int) ≤ 100000 := by omega
  have hr1 : (r0.length : Int) ≤ 100000 := by omega
  have hmk := uU (t := 23) (e := 3) Tryd.underlying23 info3 (by omega) n hn1
  clear hmy hn hl1 hl2
  go_enter Tryd.func120, Tryd.ntmps120
  go_wp2_with (go_at_call 130; refine hcall.mono ?_; rintro e w1 ⟨rfl, hR, hG, hle⟩; clear hle; have HR1 := iC.mk hR; have HG1 := iC.mk hG; clear hR hG)
  have HO := iC.mk (YT (W := w1) (n := n) (base := w.heap.size) (by omega) HG1.out.size)
  have HG := iC.mk (jE HG1.out (grown_below (iG (Below.refl _ _) (.cells (madeCells #[.int .i64 0] n) 3))))
  have HR2 := iC.mk (Rd.grown HR1.out (grown_below (row := none) (iG (Below.refl _ _) (.cells (madeCells #[.int .i64 0] n) 3))) (by simp))
  clear HR1 HG1 hcall hmk
  obtain ⟨ad, had⟩ : ∃ ad : Addr, ad = ⟨w1.heap.size, 0, none⟩ := ⟨_, rfl⟩
  rw [← had] at HO ⊢
  obtain ⟨W2, hW⟩ : ∃ W2, W2 = w1.alloc (.cells (madeCells #[.int .i64 0] n) 3) := ⟨_, rfl⟩
  rw [← hW] at HO HG HR2 ⊢
  clear hW had
  go_loopw [10] (fun i wr => ∃ (k : Nat) (done : List Int) (r : List UInt8), k ≤ n ∧ i = .int .i64 k ∧ iC (Left (intP 1) n k r0 r done) ∧ iC (Rd w0 wr g r) ∧ iC (RI wr w.heap.size (.slice (some ad) n n) (done ++ List.replicate (n - k) 0)) ∧ iC (w.grownBy wr (some g))) (fun i _ => n - (intOf i).toNat)
  case atStart => exact ⟨0, [], r0, Nat.zero_le _, rfl, ⟨Left.start _ _ _⟩, HR2, HO, HG⟩
  case round =>
   obtain ⟨k, done, r, hk, rfl, HL, HRd, HOk, HGk⟩ := hrel
   clear HR2 HO HG
   by_cases hkn : k < n
   ·cases hp : intP 1 r with
    | none =>
     have hcall := kH 1 1 rfl g r w0 wr HRd.out (mD hp)
     have HF := iC.mk (Left.fail HL.out hkn hp)
     clear hp
     go_wp2_with (go_at_call 119; refine hcall.mono ?_; rintro e w2 ⟨rfl, hG⟩)
     exact ⟨rfl, jE HGk.out hG, .inr ⟨by rw [HN.out]; exact HF.out, rfl⟩⟩
    | some x =>
     obtain ⟨x, r'⟩ := x
     obtain ⟨hs1, hx, hr'⟩ := oI hp
     have HN1 := iC.mk (Left.next HL.out hkn hp)
     have hcall := mY 1 1 rfl (by omega) g r w0 wr HRd.out (below_grown HB.out HGk.out hg (Nat.le_refl _)) hs1
     have hsm := rC r 1 (by omega)
     rw [← hr'] at hcall
     obtain ⟨m, hm1⟩ : ∃ m, m = numB (r.take 1) := ⟨_, rfl⟩
     rw [← hm1] at hcall hsm hx
     subst hx
     clear hp hr' hm1 hs1
     go_wp2_with (go_at_call 119; refine hcall.mono ?_; rintro e w2 ⟨rfl, hR, hG⟩; obtain ⟨⟨old, ho⟩, hf, hbs, hset, hgr⟩ := j8_ (kT HOk.out hG hlt) k hkn (m : Int); have HS := iC.mk hset; have HGR := iC.mk (lZ (jE HGk.out hG) hgr hbs); have HRR := iC.mk (Rd.grown hR hgr (by (intro e; injection e with e; omega))); clear hset hgr hbs hR hG)
     go_roundw
     case rel => exact ⟨k + 1, done ++ [(m : Int)], r', by omega, by go_num, HN1, HRR, ⟨by rw [← NL _ _ _ _ _ HL.out.1 hkn]; exact HS.out⟩, HGR⟩
     case measure => simp [intOf]; omega
   ·obtain rfl : k = n := by omega
    go_wp2
    go_ret
    have hd := HOk.out
    rw [Nat.sub_self, List.replicate_zero, List.append_nil] at hd
    exact ⟨HGk.out, .inl ⟨done, r, _, by rw [HN.out]; exact Left.done HL.out, rfl, hd, HRd.out⟩⟩
def RW (e : Nat) (w : World) (base : Nat) (v : Value) (rows : List (List Value)) : Prop := (Kd.raw 2).R e w base (fun _ => True) v rows
theorem JH {e : Nat} {w : World} {base : Nat} {ad : Addr} {n c : Nat} {rows : List (List Value)} (h : RW e w base (.slice (some ad) n c) rows) (k : Nat) (hk : k < n) :
  ∃ x y, rows.getD k [] = [x, y] ∧ w.cell? (ad.add (k * 2)) = some x ∧ w.cell? ⟨(ad.add (k * 2)).block, (ad.add (k * 2)).off + 1, none⟩ = some y ∧ w.frozen? (ad.add (k * 2)) = false ∧ w.frozen? ⟨(ad.add (k * 2)).block, (ad.add (k * 2)).off + 1, none⟩ = false ∧ base ≤ ad.block ∧ ad.block < w.heap.size ∧
  (∀ u : Value, u.oneCell' = true → RW e (w.setCell (ad.add (k * 2)) u) base (.slice (some ad) n c) (rows.set k [u, y]) ∧ w.grownBy (w.setCell (ad.add (k * 2)) u) (some ad.block)) ∧
  (∀ u : Value, u.oneCell' = true → RW e (w.setCell ⟨(ad.add (k * 2)).block, (ad.add (k * 2)).off + 1, none⟩ u) base (.slice (some ad) n c) (rows.set k [x, u]) ∧ w.grownBy (w.setCell ⟨(ad.add (k * 2)).block, (ad.add (k * 2)).off + 1, none⟩ u) (some ad.block)) := by
 obtain ⟨g, rfl⟩ := VF h
 have hb := Kd.R_base h g (by simp [Value.ownBlock])
 have hlt := Kd.R_lt h g (by simp [Value.ownBlock])
 obtain ⟨cc, hcl, hM, hcc, hf⟩ := Kd.R_elem h [] (k : Int) (by omega) (by omega)
 rw [Int.toNat_natCast] at hM hcc hf
 have hM' : cc = rows.getD k [] ∧ cc.length = 2 ∧ ∀ u ∈ cc, u.oneCell' = true := hM
 obtain ⟨hc1, hc2, hc3⟩ := hM'
 obtain ⟨x, y, rfl⟩ : ∃ x y, cc = [x, y] := by
  match cc, hc2 with
  | [x, y], _ => exact ⟨x, y, rfl⟩
 have ha : (⟨g, 0, none⟩ : Addr).add (k * 2) = ⟨g, k * 2, none⟩ := by rw [add_plain]
 rw [ha]
 have z0 : w.cell? ⟨g, k * 2, none⟩ = some x := hcc 0 x rfl
 have z1 : w.cell? ⟨g, k * 2 + 1, none⟩ = some y := hcc 1 y rfl
 have f0 : w.frozen? ⟨g, k * 2, none⟩ = false := hf 0
 have f1 : w.frozen? ⟨g, k * 2 + 1, none⟩ = false := hf 1
 have ox := hc3 x (by simp)
 have oy := hc3 y (by simp)
 have hcc' : ∀ j u, [x, y][j]? = some u → w.cell? ⟨g, (k : Int).toNat * (Kd.raw 2).sz + j, none⟩ = some u := by rw [Int.toNat_natCast]; exact hcc
 refine ⟨x, y, hc1.symm, z0, z1, f0, f1, hb, hlt, fun u hu => ?_, fun u hu => ?_⟩
 ·have := Kd.R_seg (d := Kd.raw 2) (okp := fun _ => False) (c := [x, y]) (seg := [u]) (j := 0) (x' := [u, y]) h (k : Int) (by omega) (by omega) rfl hcc' (show _ ≤ 2 by simp) ⟨rfl, rfl, by
   intro z hz
   rcases List.mem_cons.1 hz with rfl | hz
   ·exact hu
   ·rcases List.mem_cons.1 hz with rfl | hz
    ·exact oy
    ·cases hz⟩ (fun _ hk => hk.elim)
  rw [Int.toNat_natCast] at this
  exact this
 ·have := Kd.R_seg (d := Kd.raw 2) (okp := fun _ => False) (c := [x, y]) (seg := [u]) (j := 1) (x' := [x, u]) h (k : Int) (by omega) (by omega) rfl hcc' (show _ ≤ 2 by simp) ⟨rfl, rfl, by
   intro z hz
   rcases List.mem_cons.1 hz with rfl | hz
   ·exact ox
   ·rcases List.mem_cons.1 hz with rfl | hz
    ·exact hu
    ·cases hz⟩ (fun _ hk => hk.elim)
  rw [Int.toNat_natCast] at this
  exact this
theorem TY {e : Nat} {W : World} {n base : Nat} {x y : Value} (ox : x.oneCell' = true) (oy : y.oneCell' = true) (hn : n ≤ 9223372036854775807) (hb : base ≤ W.heap.size) : RW e (W.alloc (.cells (madeCells #[x, y] (n * 2)) e)) base (.slice (some ⟨W.heap.size, 0, none⟩) n n) (List.replicate n [x, y]) := by
 refine ⟨fun _ _ => trivial, (madeCells #[x, y] (n * 2)).toList, ?_, ?_, ?_⟩
 ·rw [List.length_replicate]
  exact World.ownsRow_lit W (madeCells #[x, y] (n * 2)) n hb (by unfold maxLen; omega) (by simp [madeCells, Kd.raw])
 ·simp [madeCells, Kd.raw]
 ·intro j p hj
  obtain ⟨hjl, hjp⟩ := List.getElem?_eq_some_iff.1 hj
  rw [List.length_replicate] at hjl
  rw [List.getElem_replicate] at hjp
  subst hjp
  have hcell : (((madeCells #[x, y] (n * 2)).toList.drop (j * (Kd.raw 2).sz)).take (Kd.raw 2).sz) = [x, y] := by
   apply List.ext_getElem
   ·simp [madeCells, Kd.raw]; omega
   ·intro i h1 h2
    have hi : i < 2 := by simpa using h2
    rw [List.getElem_take, List.getElem_drop]
    have hi' : i = 0 ∨ i = 1 := by omega
    rcases hi' with rfl | rfl <;> simp [madeCells, Kd.raw, Nat.add_mod]
  rw [hcell]
  refine ⟨rfl, rfl, fun u hu => ?_⟩
  rcases List.mem_cons.1 hu with rfl | hu
  ·exact ox
  ·rcases List.mem_cons.1 hu with rfl | hu
   ·exact oy
   ·cases hu
theorem JS {α : Type} {d : Kd α} (hd : d.sz = 2) {e : Nat} {w : World} {base : Nat} {v : Value} {rows : List (List Value)} {xs : List α} {ok : Nat → Prop} (h : RW e w base v rows) (hl : xs.length = rows.length) (hok : ∀ k, v.ownBlock = some k → ok k) (hM : ∀ (j : Nat) (p : α) (c : List Value), xs[j]? = some p → rows[j]? = some c → d.M w base (fun k => ok k ∧ some k ≠ v.ownBlock) p c) : d.R e w base ok v xs := by
 obtain ⟨_, inner, ho, hr⟩ := h
 refine ⟨hok, inner, ?_, ?_, ?_⟩
 ·rw [hl, hd]; exact ho
 ·rw [hl, hd]; exact hr.1
 ·intro j p hj
  have hjl : j < rows.length := by rw [← hl]; exact (List.getElem?_eq_some_iff.1 hj).1
  have hc := hr.2 j rows[j] (List.getElem?_eq_getElem hjl)
  rw [hd]
  have e : ((inner.drop (j * (Kd.raw 2).sz)).take (Kd.raw 2).sz) = rows[j] := hc.1
  show d.M w base _ p ((inner.drop (j * 2)).take 2)
  rw [show ((inner.drop (j * 2)).take 2) = rows[j] from e]
  exact hM j p _ hj (List.getElem?_eq_getElem hjl)
end Go.Proofs.YtgfkgppomaapiaaDoor.K
end

section
namespace Go.Proofs.YtgfkgppomaapiaaDoor.K
open Go.RowKit Go.Proofs.YtgfkgppomaapiaaDoorW.PrintWords Go.Proofs.YtgfkgppomaapiaaDoorW.PrintLast Go.Proofs.YtgfkgppomaapiaaDoorW.PrintMore
attribute [local go_sem] kF kD kN kM
def stratumref07_SoundNodes.l0 : Nat → List Int → Int → Option (Bool)
 | 0, _, _ => none
 | k + 1, x0, x3 => if x3 < (x0.length : Int) then (if 0 ≤ x3 then (if (rd x0 x3) < 0 then (some false) else (if (rd x0 x3) > 5 then (some false) else (if x3 > 0 then (if 0 ≤ (wrap64 (x3 - 1)) then (if (wrap64 (x3 - 1)) < (x0.length : Int) then (if (rd x0 x3) ≤ (rd x0 (wrap64 (x3 - 1))) then (some false) else (stratumref07_SoundNodes.l0 k x0 (wrap64 (x3 + 1)))) else (none)) else (none)) else (stratumref07_SoundNodes.l0 k x0 (wrap64 (x3 + 1)))))) else (none)) else (some true)
def stratumref07_SoundNodes.f (k : Nat) (l0 : List Int) : Option (Bool) := stratumref07_SoundNodes.l0 k l0 0
end Go.Proofs.YtgfkgppomaapiaaDoor.K
end

section
namespace Go.Proofs.YtgfkgppomaapiaaDoor.K
open Go.RowKit Go.Proofs.YtgfkgppomaapiaaDoorW.PrintWords Go.Proofs.YtgfkgppomaapiaaDoorW.PrintLast Go.Proofs.YtgfkgppomaapiaaDoorW.PrintMore
attribute [local go_sem] kF kD kN kM
mutual
def stratumref07_SoundFacts.l0 : Nat → List (S139) → Int → Option (Bool)
 | 0, _, _ => none
 | k + 1, x0, x3 => if x3 < (x0.length : Int) then (stratumref07_SoundFacts.l1 k x0 x3 0) else (some (decide ((x0.length : Int) ≤ 200)))
def stratumref07_SoundFacts.l1 : Nat → List (S139) → Int → Int → Option (Bool)
 | 0, _, _, _ => none
 | k + 1, x0, x3, x4 => if 0 ≤ x3 then (if x3 < (x0.length : Int) then (if x4 < (((iZ x0 x3).f0).length : Int) then (if 0 ≤ x4 then (if (rd ((iZ x0 x3).f0) x4) < 0 then (some false) else (if (rd ((iZ x0 x3).f0) x4) > 9999 then (some false) else (stratumref07_SoundFacts.l1 k x0 x3 (wrap64 (x4 + 1))))) else (none)) else (if (((iZ x0 x3).f0).length : Int) > 4 then (some false) else (stratumref07_SoundFacts.l0 k x0 (wrap64 (x3 + 1))))) else (none)) else (none)
end
def stratumref07_SoundFacts.f (k : Nat) (l0 : List (S139)) : Option (Bool) := stratumref07_SoundFacts.l0 k l0 0
end Go.Proofs.YtgfkgppomaapiaaDoor.K
end

section
namespace Go.Proofs.YtgfkgppomaapiaaDoor.K
open Go.RowKit Go.Proofs.YtgfkgppomaapiaaDoorW.PrintWords Go.Proofs.YtgfkgppomaapiaaDoorW.PrintLast Go.Proofs.YtgfkgppomaapiaaDoorW.PrintMore
attribute [local go_sem] kF kD kN kM
def stratumref07_spans.l0 : Nat → List (S98) → Int → Option (Bool)
 | 0, _, _ => none
 | k + 1, x0, x3 => if x3 < (x0.length : Int) then (if 0 ≤ x3 then (if ((kX x0 x3).f0) < 0 then (some false) else (if ((kX x0 x3).f0) > 9999 then (some false) else (if ((kX x0 x3).f1) < 0 then (some false) else (if ((kX x0 x3).f1) > 5 then (some false) else (stratumref07_spans.l0 k x0 (wrap64 (x3 + 1))))))) else (none)) else (some (decide ((x0.length : Int) ≤ 40)))
def stratumref07_spans.f (k : Nat) (l0 : List (S98)) : Option (Bool) := stratumref07_spans.l0 k l0 0
end Go.Proofs.YtgfkgppomaapiaaDoor.K
end

section
namespace Go.Proofs.YtgfkgppomaapiaaDoor.K
open Go.RowKit Go.Proofs.YtgfkgppomaapiaaDoorW.PrintWords Go.Proofs.YtgfkgppomaapiaaDoorW.PrintLast Go.Proofs.YtgfkgppomaapiaaDoorW.PrintMore
attribute [local go_sem] kF kD kN kM
def stratumref07_SoundEntries.l0 : Nat → List (S86) → Int → Option (Bool)
 | 0, _, _ => none
 | k + 1, x0, x3 => if x3 < (x0.length : Int) then (if 0 ≤ x3 then ((stratumref07_SoundFacts.f k ((iU x0 x3).f1)).bind fun t132 => (if t132 = true then (if x3 > 0 then (if 0 ≤ (wrap64 (x3 - 1)) then (if (wrap64 (x3 - 1)) < (x0.length : Int) then (if ((iU x0 x3).f0) ≤ ((iU x0 (wrap64 (x3 - 1))).f0) then (some false) else (stratumref07_SoundEntries.l0 k x0 (wrap64 (x3 + 1)))) else (none)) else (none)) else (stratumref07_SoundEntries.l0 k x0 (wrap64 (x3 + 1)))) else (some false))) else (none)) else (some (decide ((x0.length : Int) ≤ 5000)))
def stratumref07_SoundEntries.f (k : Nat) (l0 : List (S86)) : Option (Bool) := stratumref07_SoundEntries.l0 k l0 0
end Go.Proofs.YtgfkgppomaapiaaDoor.K
end

section
namespace Go.Proofs.YtgfkgppomaapiaaDoor.K
open RowKit YtgfkgppomaapiaaDoorW.PrintWords YtgfkgppomaapiaaDoorW.PrintLast YtgfkgppomaapiaaDoorW.PrintMore My
def OL (b : Bool) (w : World) (e : Ending) (w' : World) : Prop := ∃ r : Int, e = .returned (.int .i64 r) ∧ decide (0 ≤ r) = b ∧ Below w.heap.size w w'
theorem any_take_succ {α : Type} (p : α → Bool) (z : α) (l : List α) (k : Nat) (h : k < l.length) : (l.take (k + 1)).any p = ((l.take k).any p || p (l.getD k z)) := by
 rw [lH z l k h, List.any_append]
 simp
theorem OU {α : Type} (p : α → Bool) (z : α) (l : List α) (k : Nat) (h : k < l.length) (hp : p (l.getD k z) = true) : l.any p = true := by
 rw [List.any_eq_true]
 refine ⟨l.getD k z, ?_, hp⟩
 rw [List.getD_eq_getElem?_getD, List.getElem?_eq_getElem h]
 exact List.getElem_mem h
theorem JM {α : Type} (p : α → Bool) (l : List α) (h : (l.take l.length).any p = false) : l.any p = false := by rwa [List.take_length] at h
def badV (v : Int) : Bool := decide (v < 0) || decide (9999 < v)
set_option maxHeartbeats 400000 in
theorem PW (v : Int) (w : World) : Calls Tryd.prog 118 #[.int .i64 v] w fun e w' => e = .returned (.bool (badV v)) ∧ w = w' := by
 by_cases h0 : v < 0
 ·have e : badV v = true := by unfold badV; rw [decide_eq_true h0]; rfl
  rw [e]
  clear e
  go_enter Tryd.func118, Tryd.ntmps118
  go_wp2
  go_ret
  exact ⟨rfl, rfl⟩
 ·by_cases h1 : 9999 < v
  ·have e : badV v = true := by unfold badV; rw [decide_eq_true h1]; simp
   rw [e]
   clear e
   go_enter Tryd.func118, Tryd.ntmps118
   go_wp2
   go_ret
   exact ⟨rfl, rfl⟩
  ·have e : badV v = false := by unfold badV; rw [decide_eq_false h0, decide_eq_false h1]; rfl
   rw [e]
   clear e
   go_enter Tryd.func118, Tryd.ntmps118
   go_wp2
   go_ret
   exact ⟨rfl, rfl⟩
set_option maxHeartbeats 1000000 in
theorem QG (A : Option Addr) (c : Nat) (l : List Int) (w : World) (hr : Kd.C (Kd.int .i64) w A l.length l) :
  Calls Tryd.prog 129 #[.slice A l.length c, .func (.func 118) #[] #[]] w (OL (l.any badV) w) := by
 have hm := lC hr
 have HR := iC.mk hr
 clear hr
 go_enter Tryd.func129, Tryd.ntmps129
 go_wp2
 go_loopg [5, 8] l.length (fun gg _ s8 wr => ∃ k : Nat, k ≤ l.length ∧ l.length - k ≤ gg ∧ s8 = .int .i64 k ∧ iC (w = wr) ∧ iC ((l.take k).any badV = false))
 case atStart => exact ⟨0, Nat.zero_le _, by omega, rfl, ⟨rfl⟩, ⟨rfl⟩⟩
 case round =>
  obtain ⟨k, hk, hg, rfl, HW, HA⟩ := hrel
  obtain rfl := HW.out
  by_cases hlt : k < l.length
  ·obtain ⟨ad, rfl, hx⟩ := Kd.at_int HR.out (k : Int) (by omega) (by omega)
   have hsn := any_take_succ badV 0 l k hlt
   have hgd : rd l (k : Int) = l.getD k 0 := by unfold rd; rw [Int.toNat_natCast]
   rw [hgd, Int.toNat_natCast] at hx
   clear hgd
   obtain ⟨v, hv⟩ : ∃ v, v = l.getD k 0 := ⟨_, rfl⟩
   rw [← hv] at hx hsn
   cases hq : badV v with
   | true =>
    have HH := iC.mk (OU badV 0 l k hlt (by rw [← hv]; exact hq))
    have hcall := PW v w
    rw [hq] at hcall
    clear hv hsn hq
    go_wp2_with (go_at_call 118; refine hcall.mono ?_; rintro e w' ⟨rfl, rfl⟩)
    go_ret
    exact ⟨k, rfl, by rw [HH.out]; simp, Below.refl _ _⟩
   | false =>
    have HN := iC.mk (show (l.take (k + 1)).any badV = false by rw [hsn, HA.out, hq]; rfl)
    have hcall := PW v w
    rw [hq] at hcall
    clear hv hsn hq
    go_wp2_with (go_at_call 118; refine hcall.mono ?_; rintro e w' ⟨rfl, rfl⟩)
    go_roundg (l.length - (k + 1))
    case measure => omega
    case rel => exact ⟨k + 1, by omega, by omega, by go_num, ⟨rfl⟩, HN⟩
  ·have : k = l.length := by omega
   subst this
   go_wp2
   go_ret
   exact ⟨-1, rfl, by rw [JM _ _ HA.out]; rfl, Below.refl _ _⟩
set_option maxHeartbeats 400000 in
theorem Q3 (A : Option Addr) (c : Nat) (l : List Int) (w : World) (hr : Kd.C (Kd.int .i64) w A l.length l) :
  Calls Tryd.prog 117 #[.slice A l.length c, .func (.func 118) #[] #[]] w fun e w' => e = .returned (.bool (l.any badV)) ∧ Below w.heap.size w w' := by
 have hcall := QG A c l w hr
 clear hr
 generalize l.any badV = b at hcall
 go_enter Tryd.func117, Tryd.ntmps117
 go_wp2_with (go_at_call 129; refine hcall.mono ?_; rintro e w' ⟨r, rfl, hr, hb⟩; have HR := iC.mk hr; clear hr)
 go_ret
 exact ⟨by rw [← HR.out]; rfl, hb⟩
theorem YB (f : jP) : oV f = (decide ((f.f0.length : Int) ≤ 4) && !f.f0.any badV) := by
 unfold oV
 congr 1
 ·rw [decide_eq_decide]; omega
 ·rw [List.any_eq_not_all_not, Bool.not_not]
  congr 1
  funext v
  unfold badV
  rw [Bool.eq_iff_iff]
  simp
set_option maxHeartbeats 1000000 in
theorem XQ (A : Option Addr) (c : Nat) (f : jP) (w : World) (hr : Kd.C (Kd.int .i64) w A f.f0.length f.f0) :
  Calls Tryd.prog 94 #[.agg #[.slice A f.f0.length c, .int .i64 f.f1]] w fun e w' => e = .returned (.bool (oV f)) ∧ Below w.heap.size w w' := by
 have hcall := Q3 A c f.f0 (w.alloc (.cells #[.slice A f.f0.length c, .int .i64 f.f1] 139)) (Kd.C_below hr (iG (Below.refl _ _) _))
 clear hr
 rw [YB]
 by_cases h4 : (f.f0.length : Int) ≤ 4
 ·rw [decide_eq_true h4, Bool.true_and]
  generalize f.f0.any badV = b at hcall
  go_enter Tryd.func94, Tryd.ntmps94
  go_wp2_with (go_at_call 117; refine hcall.mono ?_; rintro e w' ⟨rfl, hb⟩)
  go_ret
  exact ⟨rfl, iK (iG (Below.refl _ _) _) hb⟩
 ·rw [decide_eq_false h4, Bool.false_and]
  clear hcall
  go_enter Tryd.func94, Tryd.ntmps94
  go_wp2
  go_ret
  exact ⟨rfl, iG (Below.refl _ _) _⟩
set_option maxHeartbeats 400000 in
theorem OM (A : Option Addr) (c : Nat) (f : jP) (w : World) (hr : Kd.C (Kd.int .i64) w A f.f0.length f.f0) :
  Calls Tryd.prog 93 #[.agg #[.slice A f.f0.length c, .int .i64 f.f1]] w fun e w' => e = .returned (.bool (!oV f)) ∧ Below w.heap.size w w' := by
 have hcall := XQ A c f (w.alloc (.cells #[.slice A f.f0.length c, .int .i64 f.f1] 139)) (Kd.C_below hr (iG (Below.refl _ _) _))
 clear hr
 generalize oV f = b at hcall
 go_enter Tryd.func93, Tryd.ntmps93
 go_wp2_with (go_at_call 94; refine hcall.mono ?_; rintro e w' ⟨rfl, hb⟩)
 go_ret
 exact ⟨rfl, iK (iG (Below.refl _ _) _) hb⟩
def TN : jP := z139
set_option maxHeartbeats 1000000 in
theorem OT (A : Option Addr) (c : Nat) (l : List jP) (w : World) (hr : Kd.C k139 w A l.length l) :
  Calls Tryd.prog 116 #[.slice A l.length c, .func (.func 93) #[] #[]] w (OL (l.any fun f => !oV f) w) := by
 have hm := lC hr
 have HR := iC.mk hr
 clear hr
 go_enter Tryd.func116, Tryd.ntmps116
 go_wp2
 go_loopg [5, 8] l.length (fun gg _ s8 wr => ∃ k : Nat, k ≤ l.length ∧ l.length - k ≤ gg ∧ s8 = .int .i64 k ∧ iC (Below w.heap.size w wr) ∧ iC ((l.take k).any (fun f => !oV f) = false))
 case atStart => exact ⟨0, Nat.zero_le _, by omega, rfl, ⟨Below.refl _ _⟩, ⟨rfl⟩⟩
 case round =>
  obtain ⟨k, hk, hg, rfl, HW, HA⟩ := hrel
  by_cases hlt : k < l.length
  ·obtain ⟨ad, A1, c1, rfl, hx0, hx1, hl1, hC1⟩ := mQ (Kd.C_below HR.out HW.out) (k : Int) (by omega) (by omega)
   have hsn := any_take_succ (fun f => !oV f) TN l k hlt
   have hgd : iZ l (k : Int) = l.getD k TN := by unfold iZ TN; rw [Int.toNat_natCast]
   rw [hgd] at hx0 hx1 hl1 hC1
   rw [Int.toNat_natCast] at hx0 hx1
   clear hgd
   obtain ⟨f, hf⟩ : ∃ v, v = l.getD k TN := ⟨_, rfl⟩
   rw [← hf] at hx0 hx1 hsn hl1 hC1
   have hcall := OM A1 c1 f wr hC1
   cases hq : (!oV f) with
   | true =>
    have HH := iC.mk (OU (fun f => !oV f) TN l k hlt (by rw [← hf]; exact hq))
    rw [hq] at hcall
    clear hf hsn hq hC1 hl1
    go_wp2_with (go_at_call 93; refine hcall.mono ?_; rintro e w' ⟨rfl, hb⟩)
    go_ret
    exact ⟨k, rfl, by rw [HH.out]; simp, iK HW.out hb⟩
   | false =>
    have HN := iC.mk (show (l.take (k + 1)).any (fun f => !oV f) = false by rw [hsn, HA.out, hq]; rfl)
    rw [hq] at hcall
    clear hf hsn hq hC1 hl1
    go_wp2_with (go_at_call 93; refine hcall.mono ?_; rintro e w' ⟨rfl, hb⟩)
    go_roundg (l.length - (k + 1))
    case measure => omega
    case rel => exact ⟨k + 1, by omega, by omega, by go_num, ⟨iK HW.out hb⟩, HN⟩
  ·have : k = l.length := by omega
   subst this
   go_wp2
   go_ret
   exact ⟨-1, rfl, by rw [JM _ _ HA.out]; rfl, HW.out⟩
set_option maxHeartbeats 400000 in
theorem NF (A : Option Addr) (c : Nat) (l : List jP) (w : World) (hr : Kd.C k139 w A l.length l) :
  Calls Tryd.prog 92 #[.slice A l.length c, .func (.func 93) #[] #[]] w fun e w' => e = .returned (.bool (l.any fun f => !oV f)) ∧ Below w.heap.size w w' := by
 have hcall := OT A c l w hr
 clear hr
 generalize (l.any fun f => !oV f) = b at hcall
 go_enter Tryd.func92, Tryd.ntmps92
 go_wp2_with (go_at_call 116; refine hcall.mono ?_; rintro e w' ⟨r, rfl, hr, hb⟩; have HR := iC.mk hr; clear hr)
 go_ret
 exact ⟨by rw [← HR.out]; rfl, hb⟩
theorem TV (l : List jP) : mV l = (decide ((l.length : Int) ≤ 200) && !l.any fun f => !oV f) := by
 unfold mV
 congr 1
 ·rw [decide_eq_decide]; omega
 ·rw [List.any_eq_not_all_not, Bool.not_not]
  congr 1
  funext v
  simp
def code_batch.f (l0 : List jP) : Option Bool := some (mV l0)
set_option maxHeartbeats 1000000 in
theorem code_batch.calls (A0 : Option Addr) (c0 : Nat) (l0 : List jP) (r : Bool) (w : World) (hr0 : Kd.C k139 w A0 l0.length l0) (hc0 : l0.length ≤ c0) (h : code_batch.f l0 = some r) :
  Calls Tryd.prog 62 #[.slice A0 l0.length c0] w fun e w' => e = .returned (.bool r) ∧ Below w.heap.size w w' := by
 obtain rfl := Option.some.inj h
 have hm := lC hr0
 have hcall := NF A0 c0 l0 w hr0
 clear hr0 h
 rw [TV]
 by_cases h4 : (l0.length : Int) ≤ 200
 ·rw [decide_eq_true h4, Bool.true_and]
  generalize (l0.any fun f => !oV f) = b at hcall
  go_enter Tryd.func62, Tryd.ntmps62
  go_wp2_with (go_at_call 92; refine hcall.mono ?_; rintro e w' ⟨rfl, hb⟩)
  go_ret
  exact ⟨rfl, hb⟩
 ·rw [decide_eq_false h4, Bool.false_and]
  clear hcall
  go_enter Tryd.func62, Tryd.ntmps62
  go_wp2
  go_ret
  exact ⟨rfl, Below.refl _ _⟩
end Go.Proofs.YtgfkgppomaapiaaDoor.K
end

section
namespace Go.Proofs.YtgfkgppomaapiaaDoor.K
open Go.RowKit Go.Proofs.YtgfkgppomaapiaaDoorW.PrintWords Go.Proofs.YtgfkgppomaapiaaDoorW.PrintLast Go.Proofs.YtgfkgppomaapiaaDoorW.PrintMore
attribute [local go_sem] kF kD kN kM
def code_rises.l0 : Nat → Int → List Int → Int → Int → Option (Bool)
 | 0, _, _, _, _ => none
 | k + 1, x3, x6, x7, x8 => if x8 < x7 then (if 0 ≤ x8 then (if x8 < (x6.length : Int) then (if (rd x6 x8) ≤ x3 then (some false) else (if (rd x6 x8) ≥ 6 then (some false) else (code_rises.l0 k (rd x6 x8) x6 x7 (wrap64 (x8 + 1))))) else (none)) else (none)) else (some true)
def code_rises.f (k : Nat) (l0 : List Int) : Option (Bool) := code_rises.l0 k (-1) l0 (l0.length : Int) 0
set_option maxHeartbeats 8000000 in
set_option maxRecDepth 100000 in
theorem code_rises.calls (k : Nat) (A0 : Option Addr) (c0 : Nat) (l0 : List Int) (r : Bool) (w : World) (hr0 : Kd.C (Kd.int .i64) w A0 l0.length l0) (hc0 : l0.length ≤ c0) (h : code_rises.f k l0 = some r) :
  Calls Tryd.prog 61 #[.slice A0 l0.length c0] w fun e w' => e = .returned (.bool r) ∧ kE w w' := by
 have HR0 := iC.mk hr0
 have HC0 := iC.mk hc0
 clear hr0 hc0
 have H : (code_rises.l0 k (-1) l0 (l0.length : Int) 0) = some r := h
 clear h
 have H' := iC.mk H
 clear H
 go_enter Tryd.func61, Tryd.ntmps61
 go_wp2
 go_loopg [3, 8] k (fun kq v3 v8 w' => ∃ (x3_1 : Int) (x8_1 : Int), v3 = .int .i64 x3_1 ∧ v8 = .int .i64 x8_1 ∧ iC (code_rises.l0 kq x3_1 l0 (l0.length : Int) x8_1 = some r) ∧ iC (kq ≤ k) ∧ kE w w')
 case atStart => exact ⟨((-1)), (0), (by first | rfl | (simp; done) | (simp [*]; done)), (by first | rfl | (simp; done) | (simp [*]; done)), H', ⟨Nat.le_refl _⟩, by repeat (first | exact kE.refl _ | apply kE.step)⟩
 case round =>
  clear H'
  obtain ⟨x3_1, x8_1, rfl, rfl, HA, HK1, ⟨m1, rfl⟩⟩ := hrel
  cases gk with
  | zero => exact absurd HA.out (by simp [code_rises.l0])
  | succ k1 =>
   have H := HA.out
   clear HA
   simp only [code_rises.l0] at H
   by_cases c2 : x8_1 < (l0.length : Int)
   ·rw [if_pos c2] at H
    have c2b0 : decide (x8_1 < (l0.length : Int)) = true := decide_eq_true c2
    clear c2
    by_cases c3 : 0 ≤ x8_1
    ·rw [if_pos c3] at H
     have c3b0 : decide (0 ≤ x8_1) = true := decide_eq_true c3
     clear c3
     by_cases c4 : x8_1 < (l0.length : Int)
     ·rw [if_pos c4] at H
      have c4b0 : decide (x8_1 < (l0.length : Int)) = true := decide_eq_true c4
      clear c4
      by_cases c5 : (rd l0 x8_1) ≤ x3_1
      ·rw [if_pos c5] at H
       have c5b0 : decide ((rd l0 x8_1) ≤ x3_1) = true := decide_eq_true c5
       clear c5
       obtain rfl := Option.some.inj H
       have p106 : 0 ≤ (x8_1 : Int) := of_decide_eq_true asm_
       have q106 : x8_1 < (l0.length : Int) := of_decide_eq_true asm_
       obtain ⟨ad106, e106, hx106_0⟩ := Kd.at_int HR0.out x8_1 p106 q106
       cases e106
       replace p106 := eq_true p106
       replace q106 := eq_true q106
       go_wp2
       go_ret
       exact ⟨by first | rfl | (simp; done) | (simp [*]; done), by repeat (first | exact kE.refl _ | apply kE.step)⟩
      ·rw [if_neg c5] at H
       have c5b0 : decide ((rd l0 x8_1) ≤ x3_1) = false := decide_eq_false c5
       clear c5
       by_cases c6 : (rd l0 x8_1) ≥ 6
       ·rw [if_pos c6] at H
        have c6b0 : decide (6 ≤ (rd l0 x8_1)) = true := decide_eq_true c6
        clear c6
        obtain rfl := Option.some.inj H
        have p106 : 0 ≤ (x8_1 : Int) := of_decide_eq_true asm_
        have q106 : x8_1 < (l0.length : Int) := of_decide_eq_true asm_
        obtain ⟨ad106, e106, hx106_0⟩ := Kd.at_int HR0.out x8_1 p106 q106
        cases e106
        replace p106 := eq_true p106
        replace q106 := eq_true q106
        go_wp2
        go_ret
        exact ⟨by first | rfl | (simp; done) | (simp [*]; done), by repeat (first | exact kE.refl _ | apply kE.step)⟩
       ·rw [if_neg c6] at H
        have c6b0 : decide (6 ≤ (rd l0 x8_1)) = false := decide_eq_false c6
        clear c6
        have H' := iC.mk H
        clear H
        have p106 : 0 ≤ (x8_1 : Int) := of_decide_eq_true asm_
        have q106 : x8_1 < (l0.length : Int) := of_decide_eq_true asm_
        obtain ⟨ad106, e106, hx106_0⟩ := Kd.at_int HR0.out x8_1 p106 q106
        cases e106
        replace p106 := eq_true p106
        replace q106 := eq_true q106
        go_wp2
        go_roundg k1
        case measure => have := HK1.out; omega
        case rel => exact ⟨(rd l0 x8_1), (wrap64 (x8_1 + 1)), (by first | rfl | (simp; done) | (simp [*]; done)), (by first | rfl | (simp; done) | (simp [*]; done)), H', ⟨by have := HK1.out; omega⟩, by repeat (first | exact kE.refl _ | apply kE.step)⟩
     ·rw [if_neg c4] at H
      exact absurd H (by simp)
    ·rw [if_neg c3] at H
     exact absurd H (by simp)
   ·rw [if_neg c2] at H
    have c2b0 : decide (x8_1 < (l0.length : Int)) = false := decide_eq_false c2
    clear c2
    obtain rfl := Option.some.inj H
    go_wp2
    go_ret
    exact ⟨by first | rfl | (simp; done) | (simp [*]; done), by repeat (first | exact kE.refl _ | apply kE.step)⟩
end Go.Proofs.YtgfkgppomaapiaaDoor.K
end

section
namespace Go.Proofs.YtgfkgppomaapiaaDoor.K
open Go.RowKit Go.Proofs.YtgfkgppomaapiaaDoorW.PrintWords Go.Proofs.YtgfkgppomaapiaaDoorW.PrintLast Go.Proofs.YtgfkgppomaapiaaDoorW.PrintMore
attribute [local go_sem] kF kD kN kM
def code_history.l0 : Nat → List (S86) → List (S86) → Int → Int → Option (Bool)
 | 0, _, _, _, _ => none
 | k + 1, x0, x5, x6, x7 => if x7 < x6 then (if 0 ≤ x7 then (if x7 < (x5.length : Int) then ((code_batch.f ((iU x5 x7).f1)).bind fun t109 => (if t109 = true then (if x7 > 0 then (if 0 ≤ (wrap64 (x7 - 1)) then (if (wrap64 (x7 - 1)) < (x0.length : Int) then (if ((iU x5 x7).f0) ≤ ((iU x0 (wrap64 (x7 - 1))).f0) then (some false) else (code_history.l0 k x0 x5 x6 (wrap64 (x7 + 1)))) else (none)) else (none)) else (code_history.l0 k x0 x5 x6 (wrap64 (x7 + 1)))) else (some false))) else (none)) else (none)) else (some (decide ((x0.length : Int) ≤ 5000)))
def code_history.f (k : Nat) (l0 : List (S86)) : Option (Bool) := code_history.l0 k l0 l0 (l0.length : Int) 0
def code_history.T4 : Bool × List (List Nat × List Nat) := (true, [([], []), ([0], [0]), ([1], [1]), ([2], [2]), ([3, 2], [3]), ([4], [4]), ([5, 4], [4, 5]), ([6, 4, 4], [4, 6]), ([7], [7]), ([8, 7], [7, 8]), ([7], [7]), ([7], [7]), ([11, 7], [7, 11]), ([10, 12, 7], [7, 10, 12]), ([13, 7], [7, 13]), ([14, 7], [7, 14]), ([9, 15, 7], [7, 9, 15]), ([7, 16, 4], [4, 7, 16]), ([4, 17], [4, 17])])
def code_history.B4 : List Nat := [0, 1, 3, 7, 15, 31, 63, 127, 255, 511, 255, 255, 2303, 7423, 15615, 31999, 65535, 131071, 262143]
theorem code_history.tab4 : rtab .any (opsOf Tryd.f66 4) = code_history.T4 := by kernel_rfl
theorem code_history.bits4 : lX code_history.T4.2 code_history.B4 = true := by kernel_rfl
set_option maxHeartbeats 8000000 in
set_option maxRecDepth 100000 in
theorem code_history.calls (k : Nat) (A0 : Option Addr) (c0 : Nat) (l0 : List (S86)) (r : Bool) (w : World) (hr0 : Kd.C k86 w A0 l0.length l0) (hc0 : l0.length ≤ c0) (h : code_history.f k l0 = some r) :
  Calls Tryd.prog 66 #[.slice A0 l0.length c0] w fun e w' => e = .returned (.bool r) ∧ Below w.heap.size w w' := by
 have hu86 := Tryd.underlying86
 have HR0 := iC.mk hr0
 have HC0 := iC.mk hc0
 clear hr0 hc0
 have HB := iC.mk (Below.refl w.heap.size w)
 have H : (code_history.l0 k l0 l0 (l0.length : Int) 0) = some r := h
 clear h
 have H' := iC.mk H
 clear H
 go_enter Tryd.func66, Tryd.ntmps66
 go_wp2
 go_loopg [7] k (fun kq v7 w' => ∃ (x7_1 : Int), v7 = .int .i64 x7_1 ∧ iC (code_history.l0 kq l0 l0 (l0.length : Int) x7_1 = some r) ∧ iC (kq ≤ k) ∧ iC (Below w.heap.size w w'))
 case atStart => exact ⟨(0), (by first | rfl | (simp; done) | (simp [*]; done)), H', ⟨Nat.le_refl _⟩, ⟨hb_⟩⟩
 case round =>
  clear H'
  obtain ⟨x7_1, rfl, HA, HK1, HB⟩ := hrel
  cases gk with
  | zero => exact absurd HA.out (by simp [code_history.l0])
  | succ k1 =>
   have H := HA.out
   clear HA
   simp only [code_history.l0] at H
   by_cases c2 : x7_1 < (l0.length : Int)
   ·rw [if_pos c2] at H
    have c2b0 : decide (x7_1 < (l0.length : Int)) = true := decide_eq_true c2
    clear c2
    by_cases c3 : 0 ≤ x7_1
    ·rw [if_pos c3] at H
     have c3b0 : decide (0 ≤ x7_1) = true := decide_eq_true c3
     clear c3
     by_cases c4 : x7_1 < (l0.length : Int)
     ·rw [if_pos c4] at H
      have c4b0 : decide (x7_1 < (l0.length : Int)) = true := decide_eq_true c4
      clear c4
      replace H := Option.bind_eq_some_iff.mp H
      obtain ⟨t109, A50, H⟩ := H
      replace H : (if t109 = true then (if x7_1 > 0 then (if 0 ≤ (wrap64 (x7_1 - 1)) then (if (wrap64 (x7_1 - 1)) < (l0.length : Int) then (if ((iU l0 x7_1).f0) ≤ ((iU l0 (wrap64 (x7_1 - 1))).f0) then (some false) else (code_history.l0 k1 l0 l0 (l0.length : Int) (wrap64 (x7_1 + 1)))) else (none)) else (none)) else (code_history.l0 k1 l0 l0 (l0.length : Int) (wrap64 (x7_1 + 1)))) else (some false)) = some r := H
      have A5 := iC.mk A50
      clear A50
      by_cases c6 : t109 = true
      ·subst c6
       have H1 : (if x7_1 > 0 then (if 0 ≤ (wrap64 (x7_1 - 1)) then (if (wrap64 (x7_1 - 1)) < (l0.length : Int) then (if ((iU l0 x7_1).f0) ≤ ((iU l0 (wrap64 (x7_1 - 1))).f0) then (some false) else (code_history.l0 k1 l0 l0 (l0.length : Int) (wrap64 (x7_1 + 1)))) else (none)) else (none)) else (code_history.l0 k1 l0 l0 (l0.length : Int) (wrap64 (x7_1 + 1)))) = some r := by rw [if_pos rfl] at H; exact H
       clear H
       have H := H1
       clear H1
       by_cases c7 : x7_1 > 0
       ·rw [if_pos c7] at H
        have c7b0 : decide (0 < x7_1) = true := decide_eq_true c7
        clear c7
        obtain ⟨ji8, hji8⟩ : ∃ j_ : Int, (wrap64 (x7_1 - 1)) = j_ := ⟨_, rfl⟩
        replace H : (if 0 ≤ (ji8) then (if (ji8) < (l0.length : Int) then (if ((iU l0 x7_1).f0) ≤ ((iU l0 (ji8)).f0) then (some false) else (code_history.l0 k1 l0 l0 (l0.length : Int) (wrap64 (x7_1 + 1)))) else (none)) else (none)) = some r := by first | (rw [hji8] at H; exact H) | (simp only [hji8] at H ⊢; exact H)
        (try rw [hji8] at A5)
        have hji8w : (IntKind.i64.wrap (x7_1 - 1)) = ji8 := (iR _).trans hji8
        by_cases c9 : 0 ≤ (ji8)
        ·rw [if_pos c9] at H
         have c9b0 : decide (0 ≤ (ji8)) = true := decide_eq_true c9
         clear c9
         by_cases c10 : (ji8) < (l0.length : Int)
         ·rw [if_pos c10] at H
          have c10b0 : decide ((ji8) < (l0.length : Int)) = true := decide_eq_true c10
          clear c10
          by_cases c11 : ((iU l0 x7_1).f0) ≤ ((iU l0 (ji8)).f0)
          ·rw [if_pos c11] at H
           have c11b0 : decide (((iU l0 x7_1).f0) ≤ ((iU l0 (ji8)).f0)) = true := decide_eq_true c11
           clear c11
           obtain rfl := Option.some.inj H
           have p107 : 0 ≤ (x7_1 : Int) := of_decide_eq_true asm_
           have q107 : x7_1 < (l0.length : Int) := of_decide_eq_true asm_
           obtain ⟨ad107, A107_1, c107_1, e107, hx107_0, hx107_1, hl107_1, hi107_1⟩ := pJ HR0.out x7_1 p107 q107
           cases e107
           replace hx107_0 := (HB.out.cell (World.block_lt_of_cell? w _ hx107_0)).trans hx107_0
           replace hx107_1 := (HB.out.cell (World.block_lt_of_cell? w _ hx107_1)).trans hx107_1
           have HR107_1 := iC.mk hi107_1
           have HC107_1 := iC.mk hl107_1
           clear hi107_1 hl107_1
           replace p107 := eq_true p107
           replace q107 := eq_true q107
           try go_wp2_with (first | ((with_reducible refine jY (N := 4) rfl ?_); refine jQ ?hg (N := 4) ?hd (cs := #[.int .u32 0, .slice none 0 0]) (t := 86) ?hr ?_; (case hd => rfl); (case hg => rfl); (case hr => first | (go_simp; done) | (go_simp; rfl)); intro gb108 hg w12 hbox hb; have n0_ := iC.mk (iK hb_ hb); have n1_ := iC.mk (hbox); have n2_ := iC.mk ((by rw [hg]; exact (iQ hb_) : w.heap.size ≤ gb108)); have n3_ := iC.mk ((by rw [hg]; exact (iQ hb_) : w.heap.size ≤ gb108)); clear HB; have HB := n0_; have BK108 := n1_; have GW108 := n2_; have GE108 := n3_; clear n0_ n1_ n2_ n3_; clear hb hbox hg; have hcz13_0 : w12.cell? ⟨gb108, 0, none⟩ = some (.int .u32 0) := (iE BK108.out 0).trans rfl; have hcz13_1 : w12.cell? ⟨gb108, 1, none⟩ = some (.slice none 0 0) := (iE BK108.out 1).trans rfl; have hfz13_0 := iD BK108.out 0; have hfz13_1 := iD BK108.out 1))
           have n0_ : iC (((w12.setCell ⟨gb108, 0, none⟩ (.int .u32 ((iU l0 x7_1).f0))).setCell ⟨gb108, 1, none⟩ (.slice A107_1 ((iU l0 x7_1).f1).length c107_1)).heap[gb108]? = some (.cells #[.int .u32 ((iU l0 x7_1).f0), .slice A107_1 ((iU l0 x7_1).f1).length c107_1] 86 (0, 0))) := ⟨by (with_reducible repeat (first | refine iL ?_ _ | refine iM ?_ | refine iI ?_ _)); refine iY (cs := #[.int .u32 ((iU l0 x7_1).f0), .slice none 0 0]) ?_ 1 _ rfl; (with_reducible repeat (first | refine iL ?_ _ | refine iM ?_ | refine iI ?_ _)); refine iY (cs := #[.int .u32 0, .slice none 0 0]) ?_ 0 _ rfl; (with_reducible repeat (first | refine iL ?_ _ | refine iM ?_ | refine iI ?_ _)); exact BK108.out⟩
           have n1_ : iC (Below w.heap.size w ((w12.setCell ⟨gb108, 0, none⟩ (.int .u32 ((iU l0 x7_1).f0))).setCell ⟨gb108, 1, none⟩ (.slice A107_1 ((iU l0 x7_1).f1).length c107_1))) := ⟨by repeat (first | (with_reducible first | exact HB.out | apply iG | apply iF | apply iJ | refine iH ?_ GE108.out) | exact HB.out)⟩
           (try clear BK108)
           (try clear HB)
           generalize ((w12.setCell ⟨gb108, 0, none⟩ (.int .u32 ((iU l0 x7_1).f0))).setCell ⟨gb108, 1, none⟩ (.slice A107_1 ((iU l0 x7_1).f1).length c107_1)) = w14 at n0_ n1_ ⊢
           have BK108 := n0_
           have HB := n1_
           clear n0_ n1_
           have n0_ := iC.mk (iM BK108.out)
           have n1_ := iC.mk (iJ HB.out)
           clear BK108
           clear HB
           have BK108 := n0_
           have HB := n1_
           clear n0_ n1_
           have p110 : 0 ≤ ((ji8) : Int) := of_decide_eq_true asm_
           have q110 : (ji8) < (l0.length : Int) := of_decide_eq_true asm_
           obtain ⟨ad110, A110_1, c110_1, e110, hx110_0, hx110_1, hl110_1, hi110_1⟩ := pJ HR0.out (ji8) p110 q110
           have hw110_1 := hx110_1
           have hw110_0 := hx110_0
           obtain rfl : ad107 = ad110 := (by injection e110)
           replace hx110_0 := (HB.out.cell (World.block_lt_of_cell? w _ hx110_0)).trans hx110_0
           replace hx110_1 := (HB.out.cell (World.block_lt_of_cell? w _ hx110_1)).trans hx110_1
           have HR110_1 := iC.mk hi110_1
           have HC110_1 := iC.mk hl110_1
           clear hi110_1 hl110_1
           replace p110 := eq_true p110
           replace q110 := eq_true q110
           refine qY (n := 19) (S := fun w' => w'.cell? ⟨gb108, 0, none⟩ = some (.int .u32 ((iU l0 x7_1).f0)) ∧ w'.cell? ⟨gb108, 1, none⟩ = some (.slice A107_1 ((iU l0 x7_1).f1).length c107_1) ∧ w'.cell? (ad107.add (((ji8)).toNat * 2)) = some (.int .u32 ((iU l0 (ji8)).f0)) ∧ w'.cell? ⟨(ad107.add (((ji8)).toNat * 2)).block, (ad107.add (((ji8)).toNat * 2)).off + 1, none⟩ = some (.slice A110_1 ((iU l0 (ji8)).f1).length c110_1)) (ds := []) #[false, false, false, false, false, false, false, false, false, false, false, false, false, false, false, false, false, false, false] (by kernel_rfl) rfl rfl ⟨(iE BK108.out 0).trans rfl, (iE BK108.out 1).trans rfl, ((HB.out.cell (World.block_lt_of_cell? w _ hw110_0)).trans hw110_0), ((HB.out.cell (World.block_lt_of_cell? w _ hw110_1)).trans hw110_1)⟩ (fun hHeld => ?_); refine mZ code_history.tab4 code_history.bits4 (fun HT_ HW_ => ?_)
           generalize w14.drew = w15 at BK108 HB HR110_1 hx110_0 hx110_1 hHeld ⊢
           refine jL (i := 0) (N := some 12) (v := ?_) (a' := ?_) #[true, false, false, false, false, false, false, false, false, false, false, false, false, false, false, false, false, false, false] rfl rfl (jF HT_.out (by kernel_rfl)) (fun _ _ _ h => h) (Or.inl ⟨by rfl, ?_⟩) ?_ ?_
           rotate_left
           ·intro w'
            go_simp
            with_reducible rfl
           rotate_left
           ·simp only [Act.put, List.setIfInBounds_toArray, List.set_cons_zero, List.set_cons_succ, iR, jG]
            rfl
           refine rW (i := 1) (N := some 13) (v := ?_) (a' := ?_) #[true, true, false, false, false, false, false, false, false, false, false, false, false, false, false, false, false, false, false] rfl rfl (lI HT_.out HW_.out (by kernel_rfl)) (fun _ _ _ h => h) (Or.inl ⟨by rfl, ?_⟩) hHeld ?_ ?_
           rotate_left
           ·rintro w' ⟨s0, s1, s2, s3⟩
            go_simp
            with_reducible rfl
           rotate_left
           ·simp only [Act.put, List.setIfInBounds_toArray, List.set_cons_zero, List.set_cons_succ, iR, jG]
            rfl
           refine one_ (i := 2) (N := some 14) #[true, true, true, false, false, false, false, false, false, false, false, false, false, false, false, false, false, false, false] rfl rfl (lW HT_.out (by kernel_rfl)) (by decide) (fun K hK => ?_)
           refine qC Tryd.func62 (by kernel_rfl) rfl #[.slice A107_1 ((iU l0 x7_1).f1).length c107_1] (by rfl) rfl rfl (by (try simp only [List.map_toArray, List.map_cons, List.map_nil]); first | done | rfl | (simp only [List.length_drop, List.length_take]; rfl)) ?_
           with_reducible refine (code_batch.calls _ _ ((iU l0 x7_1).f1) true _ ?side1 ?side2 A5.out).mono ?_
           (case side1 => repeat (first | exact (Kd.C_below HR107_1.out HB.out) | (with_reducible refine Kd.C_alloc ?_ _) | (with_reducible refine Kd.C_drewN ?_ _) | (with_reducible refine Kd.C_drew ?_)))
           (case side2 => exact HC107_1.out)
           rintro e w16 ⟨rfl, hb⟩
           refine ⟨_, rfl, ?_⟩
           have n0_ := iC.mk (jS (g := gb108) (o := .cells #[.int .u32 ((iU l0 x7_1).f0), .slice A107_1 ((iU l0 x7_1).f1).length c107_1] 86 (0, 0)) (bk_ BK108.out) hb)
           have n1_ := iC.mk (iK (by repeat (first | (with_reducible first | exact HB.out | apply iG | apply iF | apply iJ | refine iH ?_ GE108.out) | exact HB.out)) hb)
           clear BK108
           clear HB
           have BK108 := n0_
           have HB := n1_
           clear n0_ n1_
           (try clear hb)
           (try clear hb2)
           (try clear hk)
           (try clear hi)
           refine hK.out _ _ ⟨(iE BK108.out 0).trans rfl, (iE BK108.out 1).trans rfl, ((HB.out.cell (World.block_lt_of_cell? w _ hw110_0)).trans hw110_0), ((HB.out.cell (World.block_lt_of_cell? w _ hw110_1)).trans hw110_1)⟩ (fun hHeld => ?_)
           clear hK K
           refine lN (a' := ?_) ?_ ?_
           rotate_left
           ·show Act.put _ (some 14) _ = _
            simp only [Act.put, List.setIfInBounds_toArray, List.set_cons_zero, List.set_cons_succ, iR, jG]
            rfl
           refine jL (i := 3) (N := some 15) (v := ?_) (a' := ?_) #[true, true, true, true, false, false, false, false, false, false, false, false, false, false, false, false, false, false, false] rfl rfl (jF HT_.out (by kernel_rfl)) (fun _ _ _ h => h) (Or.inl ⟨by rfl, ?_⟩) ?_ ?_
           rotate_left
           ·intro w'
            go_simp
            with_reducible rfl
           rotate_left
           ·simp only [Act.put, List.setIfInBounds_toArray, List.set_cons_zero, List.set_cons_succ, iR, jG]
            rfl
           refine jL (i := 4) (N := some 16) (v := ?_) (a' := ?_) #[true, true, true, true, true, false, false, false, false, false, false, false, false, false, false, false, false, false, false] rfl rfl (jF HT_.out (by kernel_rfl)) (fun _ _ _ h => h) (Or.inl ⟨by rfl, ?_⟩) ?_ ?_
           rotate_left
           ·intro w'
            go_simp
            with_reducible rfl
           rotate_left
           ·simp only [Act.put, List.setIfInBounds_toArray, List.set_cons_zero, List.set_cons_succ, iR, jG]
            rfl
           refine jL (i := 5) (N := some 17) (v := ?_) (a' := ?_) #[true, true, true, true, true, true, false, false, false, false, false, false, false, false, false, false, false, false, false] rfl rfl (jF HT_.out (by kernel_rfl)) (fun _ _ _ h => h) (Or.inl ⟨by rfl, ?_⟩) ?_ ?_
           rotate_left
           ·intro w'
            go_simp
            with_reducible rfl
           rotate_left
           ·simp only [Act.put, List.setIfInBounds_toArray, List.set_cons_zero, List.set_cons_succ, iR, jG]
            rfl
           refine jL (i := 6) (N := some 18) (v := ?_) (a' := ?_) #[true, true, true, true, true, true, true, false, false, false, false, false, false, false, false, false, false, false, false] rfl rfl (jF HT_.out (by kernel_rfl)) (fun _ _ _ h => h) (Or.inl ⟨by rfl, ?_⟩) ?_ ?_
           rotate_left
           ·intro w'
            go_simp
            with_reducible rfl
           rotate_left
           ·simp only [Act.put, List.setIfInBounds_toArray, List.set_cons_zero, List.set_cons_succ, iR, jG]
            rfl
           refine jL (i := 7) (N := some 19) (v := ?_) (a' := ?_) #[true, true, true, true, true, true, true, true, false, false, false, false, false, false, false, false, false, false, false] rfl rfl (jF HT_.out (by kernel_rfl)) (fun _ _ _ h => h) (Or.inl ⟨by rfl, ?_⟩) ?_ ?_
           rotate_left
           ·intro w'
            go_simp
            with_reducible rfl
           rotate_left
           ·simp only [Act.put, List.setIfInBounds_toArray, List.set_cons_zero, List.set_cons_succ, iR, jG]
            rfl
           refine jL (i := 8) (N := some 20) (v := ?_) (a' := ?_) #[true, true, true, true, true, true, true, true, true, false, false, false, false, false, false, false, false, false, false] rfl rfl (jF HT_.out (by kernel_rfl)) (fun _ _ _ h => h) (Or.inl ⟨by rfl, ?_⟩) ?_ ?_
           rotate_left
           ·intro w'
            go_simp
            with_reducible rfl
           rotate_left
           ·simp only [Act.put, List.setIfInBounds_toArray, List.set_cons_zero, List.set_cons_succ, iR, jG]
            rfl
           refine jL (i := 10) (N := some 22) (v := ?_) (a' := ?_) #[true, true, true, true, true, true, true, true, true, false, true, false, false, false, false, false, false, false, false] rfl rfl (jF HT_.out (by kernel_rfl)) (fun _ _ _ h => h) (Or.inl ⟨by rfl, ?_⟩) ?_ ?_
           rotate_left
           ·intro w'
            go_simp
            with_reducible rfl
           rotate_left
           ·simp only [Act.put, List.setIfInBounds_toArray, List.set_cons_zero, List.set_cons_succ, iR, jG]
            rfl
           refine jL (i := 11) (N := some 23) (v := ?_) (a' := ?_) #[true, true, true, true, true, true, true, true, true, false, true, true, false, false, false, false, false, false, false] rfl rfl (jF HT_.out (by kernel_rfl)) (fun _ _ _ h => h) (Or.inl ⟨by rfl, ?_⟩) ?_ ?_
           rotate_left
           ·intro w'
            go_simp
            with_reducible rfl
           rotate_left
           ·simp only [Act.put, List.setIfInBounds_toArray, List.set_cons_zero, List.set_cons_succ, iR, jG]
            rfl
           refine jL (i := 12) (N := some 24) (v := ?_) (a' := ?_) #[true, true, true, true, true, true, true, true, true, false, true, true, true, false, false, false, false, false, false] rfl rfl (jF HT_.out (by kernel_rfl)) (fun _ _ _ h => h) (Or.inl ⟨by rfl, ?_⟩) ?_ ?_
           rotate_left
           ·intro w'
            go_simp
            with_reducible rfl
           rotate_left
           ·simp only [Act.put, List.setIfInBounds_toArray, List.set_cons_zero, List.set_cons_succ, iR, jG]
            rfl
           refine jL (i := 13) (N := some 25) (v := ?_) (a' := ?_) #[true, true, true, true, true, true, true, true, true, false, true, true, true, true, false, false, false, false, false] rfl rfl (jF HT_.out (by kernel_rfl)) (fun _ _ _ h => h) (Or.inl ⟨by rfl, ?_⟩) ?_ ?_
           rotate_left
           ·intro w'
            go_simp
            with_reducible rfl
           rotate_left
           ·simp only [Act.put, List.setIfInBounds_toArray, List.set_cons_zero, List.set_cons_succ, iR, jG]
            rfl
           refine jL (i := 14) (N := some 26) (v := ?_) (a' := ?_) #[true, true, true, true, true, true, true, true, true, false, true, true, true, true, true, false, false, false, false] rfl rfl (jF HT_.out (by kernel_rfl)) (fun _ _ _ h => h) (Or.inl ⟨by rfl, ?_⟩) ?_ ?_
           rotate_left
           ·intro w'
            go_simp
            with_reducible rfl
           rotate_left
           ·simp only [Act.put, List.setIfInBounds_toArray, List.set_cons_zero, List.set_cons_succ, iR, jG]
            rfl
           refine rW (i := 9) (N := some 21) (v := ?_) (a' := ?_) #[true, true, true, true, true, true, true, true, true, true, true, true, true, true, true, false, false, false, false] rfl rfl (lI HT_.out HW_.out (by kernel_rfl)) (fun _ _ _ h => h) (Or.inl ⟨by rfl, ?_⟩) hHeld ?_ ?_
           rotate_left
           ·rintro w' ⟨s0, s1, s2, s3⟩
            go_simp
            with_reducible rfl
           rotate_left
           ·simp only [Act.put, List.setIfInBounds_toArray, List.set_cons_zero, List.set_cons_succ, iR, jG]
            rfl
           refine rW (i := 15) (N := some 27) (v := ?_) (a' := ?_) #[true, true, true, true, true, true, true, true, true, true, true, true, true, true, true, true, false, false, false] rfl rfl (lI HT_.out HW_.out (by kernel_rfl)) (fun _ _ _ h => h) (Or.inl ⟨by rfl, ?_⟩) hHeld ?_ ?_
           rotate_left
           ·rintro w' ⟨s0, s1, s2, s3⟩
            go_simp
            with_reducible rfl
           rotate_left
           ·simp only [Act.put, List.setIfInBounds_toArray, List.set_cons_zero, List.set_cons_succ, iR, jG]
            rfl
           refine jL (i := 16) (N := some 28) (v := ?_) (a' := ?_) #[true, true, true, true, true, true, true, true, true, true, true, true, true, true, true, true, true, false, false] rfl rfl (jF HT_.out (by kernel_rfl)) (fun _ _ _ h => h) (Or.inl ⟨by rfl, ?_⟩) ?_ ?_
           rotate_left
           ·intro w'
            go_simp
            with_reducible rfl
           rotate_left
           ·simp only [Act.put, List.setIfInBounds_toArray, List.set_cons_zero, List.set_cons_succ, iR, jG]
            rfl
           refine jL (i := 17) (N := some 29) (v := ?_) (a' := ?_) #[true, true, true, true, true, true, true, true, true, true, true, true, true, true, true, true, true, true, false] rfl rfl (jF HT_.out (by kernel_rfl)) (fun _ _ _ h => h) (Or.inl ⟨by rfl, ?_⟩) ?_ ?_
           rotate_left
           ·intro w'
            go_simp
            with_reducible rfl
           rotate_left
           ·simp only [Act.put, List.setIfInBounds_toArray, List.set_cons_zero, List.set_cons_succ, iR, jG]
            rfl
           refine jL (i := 18) (N := some 30) (v := ?_) (a' := ?_) #[true, true, true, true, true, true, true, true, true, true, true, true, true, true, true, true, true, true, true] rfl rfl (jF HT_.out (by kernel_rfl)) (fun _ _ _ h => h) (Or.inl ⟨by rfl, ?_⟩) ?_ ?_
           rotate_left
           ·intro w'
            go_simp
            with_reducible rfl
           rotate_left
           ·simp only [Act.put, List.setIfInBounds_toArray, List.set_cons_zero, List.set_cons_succ, iR, jG]
            rfl
           refine JA (qG HT_.out (by kernel_rfl)) ?_
           try go_wp2
           go_ret
           exact ⟨by first | rfl | (simp [iW, iV] <;> rfl) | (simp only [← hji8]; first | rfl | (simp [iW, iV] <;> rfl)) | (simp [*, iW, iV] <;> rfl), by repeat (first | (with_reducible first | exact HB.out | apply iG | apply iF | apply iJ | refine iH ?_ GE108.out) | exact HB.out)⟩
          ·rw [if_neg c11] at H
           have c11b0 : decide (((iU l0 x7_1).f0) ≤ ((iU l0 (ji8)).f0)) = false := decide_eq_false c11
           clear c11
           have H' := iC.mk H
           clear H
           have p107 : 0 ≤ (x7_1 : Int) := of_decide_eq_true asm_
           have q107 : x7_1 < (l0.length : Int) := of_decide_eq_true asm_
           obtain ⟨ad107, A107_1, c107_1, e107, hx107_0, hx107_1, hl107_1, hi107_1⟩ := pJ HR0.out x7_1 p107 q107
           cases e107
           replace hx107_0 := (HB.out.cell (World.block_lt_of_cell? w _ hx107_0)).trans hx107_0
           replace hx107_1 := (HB.out.cell (World.block_lt_of_cell? w _ hx107_1)).trans hx107_1
           have HR107_1 := iC.mk hi107_1
           have HC107_1 := iC.mk hl107_1
           clear hi107_1 hl107_1
           replace p107 := eq_true p107
           replace q107 := eq_true q107
           try go_wp2_with (first | ((with_reducible refine jY (N := 4) rfl ?_); refine jQ ?hg (N := 4) ?hd (cs := #[.int .u32 0, .slice none 0 0]) (t := 86) ?hr ?_; (case hd => rfl); (case hg => rfl); (case hr => first | (go_simp; done) | (go_simp; rfl)); intro gb108 hg w17 hbox hb; have n0_ := iC.mk (iK hb_ hb); have n1_ := iC.mk (hbox); have n2_ := iC.mk ((by rw [hg]; exact (iQ hb_) : w.heap.size ≤ gb108)); have n3_ := iC.mk ((by rw [hg]; exact (iQ hb_) : w.heap.size ≤ gb108)); clear HB; have HB := n0_; have BK108 := n1_; have GW108 := n2_; have GE108 := n3_; clear n0_ n1_ n2_ n3_; clear hb hbox hg; have hcz18_0 : w17.cell? ⟨gb108, 0, none⟩ = some (.int .u32 0) := (iE BK108.out 0).trans rfl; have hcz18_1 : w17.cell? ⟨gb108, 1, none⟩ = some (.slice none 0 0) := (iE BK108.out 1).trans rfl; have hfz18_0 := iD BK108.out 0; have hfz18_1 := iD BK108.out 1))
           have n0_ : iC (((w17.setCell ⟨gb108, 0, none⟩ (.int .u32 ((iU l0 x7_1).f0))).setCell ⟨gb108, 1, none⟩ (.slice A107_1 ((iU l0 x7_1).f1).length c107_1)).heap[gb108]? = some (.cells #[.int .u32 ((iU l0 x7_1).f0), .slice A107_1 ((iU l0 x7_1).f1).length c107_1] 86 (0, 0))) := ⟨by (with_reducible repeat (first | refine iL ?_ _ | refine iM ?_ | refine iI ?_ _)); refine iY (cs := #[.int .u32 ((iU l0 x7_1).f0), .slice none 0 0]) ?_ 1 _ rfl; (with_reducible repeat (first | refine iL ?_ _ | refine iM ?_ | refine iI ?_ _)); refine iY (cs := #[.int .u32 0, .slice none 0 0]) ?_ 0 _ rfl; (with_reducible repeat (first | refine iL ?_ _ | refine iM ?_ | refine iI ?_ _)); exact BK108.out⟩
           have n1_ : iC (Below w.heap.size w ((w17.setCell ⟨gb108, 0, none⟩ (.int .u32 ((iU l0 x7_1).f0))).setCell ⟨gb108, 1, none⟩ (.slice A107_1 ((iU l0 x7_1).f1).length c107_1))) := ⟨by repeat (first | (with_reducible first | exact HB.out | apply iG | apply iF | apply iJ | refine iH ?_ GE108.out) | exact HB.out)⟩
           (try clear BK108)
           (try clear HB)
           generalize ((w17.setCell ⟨gb108, 0, none⟩ (.int .u32 ((iU l0 x7_1).f0))).setCell ⟨gb108, 1, none⟩ (.slice A107_1 ((iU l0 x7_1).f1).length c107_1)) = w19 at n0_ n1_ ⊢
           have BK108 := n0_
           have HB := n1_
           clear n0_ n1_
           have n0_ := iC.mk (iM BK108.out)
           have n1_ := iC.mk (iJ HB.out)
           clear BK108
           clear HB
           have BK108 := n0_
           have HB := n1_
           clear n0_ n1_
           have p110 : 0 ≤ ((ji8) : Int) := of_decide_eq_true asm_
           have q110 : (ji8) < (l0.length : Int) := of_decide_eq_true asm_
           obtain ⟨ad110, A110_1, c110_1, e110, hx110_0, hx110_1, hl110_1, hi110_1⟩ := pJ HR0.out (ji8) p110 q110
           have hw110_1 := hx110_1
           have hw110_0 := hx110_0
           obtain rfl : ad107 = ad110 := (by injection e110)
           replace hx110_0 := (HB.out.cell (World.block_lt_of_cell? w _ hx110_0)).trans hx110_0
           replace hx110_1 := (HB.out.cell (World.block_lt_of_cell? w _ hx110_1)).trans hx110_1
           have HR110_1 := iC.mk hi110_1
           have HC110_1 := iC.mk hl110_1
           clear hi110_1 hl110_1
           replace p110 := eq_true p110
           replace q110 := eq_true q110
           refine qY (n := 19) (S := fun w' => w'.cell? ⟨gb108, 0, none⟩ = some (.int .u32 ((iU l0 x7_1).f0)) ∧ w'.cell? ⟨gb108, 1, none⟩ = some (.slice A107_1 ((iU l0 x7_1).f1).length c107_1) ∧ w'.cell? (ad107.add (((ji8)).toNat * 2)) = some (.int .u32 ((iU l0 (ji8)).f0)) ∧ w'.cell? ⟨(ad107.add (((ji8)).toNat * 2)).block, (ad107.add (((ji8)).toNat * 2)).off + 1, none⟩ = some (.slice A110_1 ((iU l0 (ji8)).f1).length c110_1)) (ds := []) #[false, false, false, false, false, false, false, false, false, false, false, false, false, false, false, false, false, false, false] (by kernel_rfl) rfl rfl ⟨(iE BK108.out 0).trans rfl, (iE BK108.out 1).trans rfl, ((HB.out.cell (World.block_lt_of_cell? w _ hw110_0)).trans hw110_0), ((HB.out.cell (World.block_lt_of_cell? w _ hw110_1)).trans hw110_1)⟩ (fun hHeld => ?_); refine mZ code_history.tab4 code_history.bits4 (fun HT_ HW_ => ?_)
           generalize w19.drew = w20 at BK108 HB HR110_1 hx110_0 hx110_1 hHeld ⊢
           refine jL (i := 0) (N := some 12) (v := ?_) (a' := ?_) #[true, false, false, false, false, false, false, false, false, false, false, false, false, false, false, false, false, false, false] rfl rfl (jF HT_.out (by kernel_rfl)) (fun _ _ _ h => h) (Or.inl ⟨by rfl, ?_⟩) ?_ ?_
           rotate_left
           ·intro w'
            go_simp
            with_reducible rfl
           rotate_left
           ·simp only [Act.put, List.setIfInBounds_toArray, List.set_cons_zero, List.set_cons_succ, iR, jG]
            rfl
           refine rW (i := 1) (N := some 13) (v := ?_) (a' := ?_) #[true, true, false, false, false, false, false, false, false, false, false, false, false, false, false, false, false, false, false] rfl rfl (lI HT_.out HW_.out (by kernel_rfl)) (fun _ _ _ h => h) (Or.inl ⟨by rfl, ?_⟩) hHeld ?_ ?_
           rotate_left
           ·rintro w' ⟨s0, s1, s2, s3⟩
            go_simp
            with_reducible rfl
           rotate_left
           ·simp only [Act.put, List.setIfInBounds_toArray, List.set_cons_zero, List.set_cons_succ, iR, jG]
            rfl
           refine one_ (i := 2) (N := some 14) #[true, true, true, false, false, false, false, false, false, false, false, false, false, false, false, false, false, false, false] rfl rfl (lW HT_.out (by kernel_rfl)) (by decide) (fun K hK => ?_)
           refine qC Tryd.func62 (by kernel_rfl) rfl #[.slice A107_1 ((iU l0 x7_1).f1).length c107_1] (by rfl) rfl rfl (by (try simp only [List.map_toArray, List.map_cons, List.map_nil]); first | done | rfl | (simp only [List.length_drop, List.length_take]; rfl)) ?_
           with_reducible refine (code_batch.calls _ _ ((iU l0 x7_1).f1) true _ ?side1 ?side2 A5.out).mono ?_
           (case side1 => repeat (first | exact (Kd.C_below HR107_1.out HB.out) | (with_reducible refine Kd.C_alloc ?_ _) | (with_reducible refine Kd.C_drewN ?_ _) | (with_reducible refine Kd.C_drew ?_)))
           (case side2 => exact HC107_1.out)
           rintro e w21 ⟨rfl, hb⟩
           refine ⟨_, rfl, ?_⟩
           have n0_ := iC.mk (jS (g := gb108) (o := .cells #[.int .u32 ((iU l0 x7_1).f0), .slice A107_1 ((iU l0 x7_1).f1).length c107_1] 86 (0, 0)) (bk_ BK108.out) hb)
           have n1_ := iC.mk (iK (by repeat (first | (with_reducible first | exact HB.out | apply iG | apply iF | apply iJ | refine iH ?_ GE108.out) | exact HB.out)) hb)
           clear BK108
           clear HB
           have BK108 := n0_
           have HB := n1_
           clear n0_ n1_
           (try clear hb)
           (try clear hb2)
           (try clear hk)
           (try clear hi)
           refine hK.out _ _ ⟨(iE BK108.out 0).trans rfl, (iE BK108.out 1).trans rfl, ((HB.out.cell (World.block_lt_of_cell? w _ hw110_0)).trans hw110_0), ((HB.out.cell (World.block_lt_of_cell? w _ hw110_1)).trans hw110_1)⟩ (fun hHeld => ?_)
           clear hK K
           refine lN (a' := ?_) ?_ ?_
           rotate_left
           ·show Act.put _ (some 14) _ = _
            simp only [Act.put, List.setIfInBounds_toArray, List.set_cons_zero, List.set_cons_succ, iR, jG]
            rfl
           refine jL (i := 3) (N := some 15) (v := ?_) (a' := ?_) #[true, true, true, true, false, false, false, false, false, false, false, false, false, false, false, false, false, false, false] rfl rfl (jF HT_.out (by kernel_rfl)) (fun _ _ _ h => h) (Or.inl ⟨by rfl, ?_⟩) ?_ ?_
           rotate_left
           ·intro w'
            go_simp
            with_reducible rfl
           rotate_left
           ·simp only [Act.put, List.setIfInBounds_toArray, List.set_cons_zero, List.set_cons_succ, iR, jG]
            rfl
           refine jL (i := 4) (N := some 16) (v := ?_) (a' := ?_) #[true, true, true, true, true, false, false, false, false, false, false, false, false, false, false, false, false, false, false] rfl rfl (jF HT_.out (by kernel_rfl)) (fun _ _ _ h => h) (Or.inl ⟨by rfl, ?_⟩) ?_ ?_
           rotate_left
           ·intro w'
            go_simp
            with_reducible rfl
           rotate_left
           ·simp only [Act.put, List.setIfInBounds_toArray, List.set_cons_zero, List.set_cons_succ, iR, jG]
            rfl
           refine jL (i := 5) (N := some 17) (v := ?_) (a' := ?_) #[true, true, true, true, true, true, false, false, false, false, false, false, false, false, false, false, false, false, false] rfl rfl (jF HT_.out (by kernel_rfl)) (fun _ _ _ h => h) (Or.inl ⟨by rfl, ?_⟩) ?_ ?_
           rotate_left
           ·intro w'
            go_simp
            with_reducible rfl
           rotate_left
           ·simp only [Act.put, List.setIfInBounds_toArray, List.set_cons_zero, List.set_cons_succ, iR, jG]
            rfl
           refine jL (i := 6) (N := some 18) (v := ?_) (a' := ?_) #[true, true, true, true, true, true, true, false, false, false, false, false, false, false, false, false, false, false, false] rfl rfl (jF HT_.out (by kernel_rfl)) (fun _ _ _ h => h) (Or.inl ⟨by rfl, ?_⟩) ?_ ?_
           rotate_left
           ·intro w'
            go_simp
            with_reducible rfl
           rotate_left
           ·simp only [Act.put, List.setIfInBounds_toArray, List.set_cons_zero, List.set_cons_succ, iR, jG]
            rfl
           refine jL (i := 7) (N := some 19) (v := ?_) (a' := ?_) #[true, true, true, true, true, true, true, true, false, false, false, false, false, false, false, false, false, false, false] rfl rfl (jF HT_.out (by kernel_rfl)) (fun _ _ _ h => h) (Or.inl ⟨by rfl, ?_⟩) ?_ ?_
           rotate_left
           ·intro w'
            go_simp
            with_reducible rfl
           rotate_left
           ·simp only [Act.put, List.setIfInBounds_toArray, List.set_cons_zero, List.set_cons_succ, iR, jG]
            rfl
           refine jL (i := 8) (N := some 20) (v := ?_) (a' := ?_) #[true, true, true, true, true, true, true, true, true, false, false, false, false, false, false, false, false, false, false] rfl rfl (jF HT_.out (by kernel_rfl)) (fun _ _ _ h => h) (Or.inl ⟨by rfl, ?_⟩) ?_ ?_
           rotate_left
           ·intro w'
            go_simp
            with_reducible rfl
           rotate_left
           ·simp only [Act.put, List.setIfInBounds_toArray, List.set_cons_zero, List.set_cons_succ, iR, jG]
            rfl
           refine jL (i := 10) (N := some 22) (v := ?_) (a' := ?_) #[true, true, true, true, true, true, true, true, true, false, true, false, false, false, false, false, false, false, false] rfl rfl (jF HT_.out (by kernel_rfl)) (fun _ _ _ h => h) (Or.inl ⟨by rfl, ?_⟩) ?_ ?_
           rotate_left
           ·intro w'
            go_simp
            with_reducible rfl
           rotate_left
           ·simp only [Act.put, List.setIfInBounds_toArray, List.set_cons_zero, List.set_cons_succ, iR, jG]
            rfl
           refine jL (i := 11) (N := some 23) (v := ?_) (a' := ?_) #[true, true, true, true, true, true, true, true, true, false, true, true, false, false, false, false, false, false, false] rfl rfl (jF HT_.out (by kernel_rfl)) (fun _ _ _ h => h) (Or.inl ⟨by rfl, ?_⟩) ?_ ?_
           rotate_left
           ·intro w'
            go_simp
            with_reducible rfl
           rotate_left
           ·simp only [Act.put, List.setIfInBounds_toArray, List.set_cons_zero, List.set_cons_succ, iR, jG]
            rfl
           refine jL (i := 12) (N := some 24) (v := ?_) (a' := ?_) #[true, true, true, true, true, true, true, true, true, false, true, true, true, false, false, false, false, false, false] rfl rfl (jF HT_.out (by kernel_rfl)) (fun _ _ _ h => h) (Or.inl ⟨by rfl, ?_⟩) ?_ ?_
           rotate_left
           ·intro w'
            go_simp
            with_reducible rfl
           rotate_left
           ·simp only [Act.put, List.setIfInBounds_toArray, List.set_cons_zero, List.set_cons_succ, iR, jG]
            rfl
           refine jL (i := 13) (N := some 25) (v := ?_) (a' := ?_) #[true, true, true, true, true, true, true, true, true, false, true, true, true, true, false, false, false, false, false] rfl rfl (jF HT_.out (by kernel_rfl)) (fun _ _ _ h => h) (Or.inl ⟨by rfl, ?_⟩) ?_ ?_
           rotate_left
           ·intro w'
            go_simp
            with_reducible rfl
           rotate_left
           ·simp only [Act.put, List.setIfInBounds_toArray, List.set_cons_zero, List.set_cons_succ, iR, jG]
            rfl
           refine jL (i := 14) (N := some 26) (v := ?_) (a' := ?_) #[true, true, true, true, true, true, true, true, true, false, true, true, true, true, true, false, false, false, false] rfl rfl (jF HT_.out (by kernel_rfl)) (fun _ _ _ h => h) (Or.inl ⟨by rfl, ?_⟩) ?_ ?_
           rotate_left
           ·intro w'
            go_simp
            with_reducible rfl
           rotate_left
           ·simp only [Act.put, List.setIfInBounds_toArray, List.set_cons_zero, List.set_cons_succ, iR, jG]
            rfl
           refine rW (i := 9) (N := some 21) (v := ?_) (a' := ?_) #[true, true, true, true, true, true, true, true, true, true, true, true, true, true, true, false, false, false, false] rfl rfl (lI HT_.out HW_.out (by kernel_rfl)) (fun _ _ _ h => h) (Or.inl ⟨by rfl, ?_⟩) hHeld ?_ ?_
           rotate_left
           ·rintro w' ⟨s0, s1, s2, s3⟩
            go_simp
            with_reducible rfl
           rotate_left
           ·simp only [Act.put, List.setIfInBounds_toArray, List.set_cons_zero, List.set_cons_succ, iR, jG]
            rfl
           refine rW (i := 15) (N := some 27) (v := ?_) (a' := ?_) #[true, true, true, true, true, true, true, true, true, true, true, true, true, true, true, true, false, false, false] rfl rfl (lI HT_.out HW_.out (by kernel_rfl)) (fun _ _ _ h => h) (Or.inl ⟨by rfl, ?_⟩) hHeld ?_ ?_
           rotate_left
           ·rintro w' ⟨s0, s1, s2, s3⟩
            go_simp
            with_reducible rfl
           rotate_left
           ·simp only [Act.put, List.setIfInBounds_toArray, List.set_cons_zero, List.set_cons_succ, iR, jG]
            rfl
           refine jL (i := 16) (N := some 28) (v := ?_) (a' := ?_) #[true, true, true, true, true, true, true, true, true, true, true, true, true, true, true, true, true, false, false] rfl rfl (jF HT_.out (by kernel_rfl)) (fun _ _ _ h => h) (Or.inl ⟨by rfl, ?_⟩) ?_ ?_
           rotate_left
           ·intro w'
            go_simp
            with_reducible rfl
           rotate_left
           ·simp only [Act.put, List.setIfInBounds_toArray, List.set_cons_zero, List.set_cons_succ, iR, jG]
            rfl
           refine jL (i := 17) (N := some 29) (v := ?_) (a' := ?_) #[true, true, true, true, true, true, true, true, true, true, true, true, true, true, true, true, true, true, false] rfl rfl (jF HT_.out (by kernel_rfl)) (fun _ _ _ h => h) (Or.inl ⟨by rfl, ?_⟩) ?_ ?_
           rotate_left
           ·intro w'
            go_simp
            with_reducible rfl
           rotate_left
           ·simp only [Act.put, List.setIfInBounds_toArray, List.set_cons_zero, List.set_cons_succ, iR, jG]
            rfl
           refine jL (i := 18) (N := some 30) (v := ?_) (a' := ?_) #[true, true, true, true, true, true, true, true, true, true, true, true, true, true, true, true, true, true, true] rfl rfl (jF HT_.out (by kernel_rfl)) (fun _ _ _ h => h) (Or.inl ⟨by rfl, ?_⟩) ?_ ?_
           rotate_left
           ·intro w'
            go_simp
            with_reducible rfl
           rotate_left
           ·simp only [Act.put, List.setIfInBounds_toArray, List.set_cons_zero, List.set_cons_succ, iR, jG]
            rfl
           refine JA (qG HT_.out (by kernel_rfl)) ?_
           try go_wp2
           go_roundg k1
           case measure => have := HK1.out; omega
           case rel => exact ⟨(wrap64 (x7_1 + 1)), (by first | rfl | (simp; done) | (simp [*]; done)), H', ⟨by have := HK1.out; omega⟩, ⟨by repeat (first | (with_reducible first | exact HB.out | apply iG | apply iF | apply iJ | refine iH ?_ GE108.out) | exact HB.out)⟩⟩
         ·rw [if_neg c10] at H
          exact absurd H (by simp)
        ·rw [if_neg c9] at H
         exact absurd H (by simp)
       ·rw [if_neg c7] at H
        have c7b0 : decide (0 < x7_1) = false := decide_eq_false c7
        clear c7
        have H' := iC.mk H
        clear H
        have p107 : 0 ≤ (x7_1 : Int) := of_decide_eq_true asm_
        have q107 : x7_1 < (l0.length : Int) := of_decide_eq_true asm_
        obtain ⟨ad107, A107_1, c107_1, e107, hx107_0, hx107_1, hl107_1, hi107_1⟩ := pJ HR0.out x7_1 p107 q107
        cases e107
        replace hx107_0 := (HB.out.cell (World.block_lt_of_cell? w _ hx107_0)).trans hx107_0
        replace hx107_1 := (HB.out.cell (World.block_lt_of_cell? w _ hx107_1)).trans hx107_1
        have HR107_1 := iC.mk hi107_1
        have HC107_1 := iC.mk hl107_1
        clear hi107_1 hl107_1
        replace p107 := eq_true p107
        replace q107 := eq_true q107
        try go_wp2_with (first | ((with_reducible refine jY (N := 4) rfl ?_); refine jQ ?hg (N := 4) ?hd (cs := #[.int .u32 0, .slice none 0 0]) (t := 86) ?hr ?_; (case hd => rfl); (case hg => rfl); (case hr => first | (go_simp; done) | (go_simp; rfl)); intro gb108 hg w22 hbox hb; have n0_ := iC.mk (iK hb_ hb); have n1_ := iC.mk (hbox); have n2_ := iC.mk ((by rw [hg]; exact (iQ hb_) : w.heap.size ≤ gb108)); have n3_ := iC.mk ((by rw [hg]; exact (iQ hb_) : w.heap.size ≤ gb108)); clear HB; have HB := n0_; have BK108 := n1_; have GW108 := n2_; have GE108 := n3_; clear n0_ n1_ n2_ n3_; clear hb hbox hg; have hcz23_0 : w22.cell? ⟨gb108, 0, none⟩ = some (.int .u32 0) := (iE BK108.out 0).trans rfl; have hcz23_1 : w22.cell? ⟨gb108, 1, none⟩ = some (.slice none 0 0) := (iE BK108.out 1).trans rfl; have hfz23_0 := iD BK108.out 0; have hfz23_1 := iD BK108.out 1))
        have n0_ : iC (((w22.setCell ⟨gb108, 0, none⟩ (.int .u32 ((iU l0 x7_1).f0))).setCell ⟨gb108, 1, none⟩ (.slice A107_1 ((iU l0 x7_1).f1).length c107_1)).heap[gb108]? = some (.cells #[.int .u32 ((iU l0 x7_1).f0), .slice A107_1 ((iU l0 x7_1).f1).length c107_1] 86 (0, 0))) := ⟨by (with_reducible repeat (first | refine iL ?_ _ | refine iM ?_ | refine iI ?_ _)); refine iY (cs := #[.int .u32 ((iU l0 x7_1).f0), .slice none 0 0]) ?_ 1 _ rfl; (with_reducible repeat (first | refine iL ?_ _ | refine iM ?_ | refine iI ?_ _)); refine iY (cs := #[.int .u32 0, .slice none 0 0]) ?_ 0 _ rfl; (with_reducible repeat (first | refine iL ?_ _ | refine iM ?_ | refine iI ?_ _)); exact BK108.out⟩
        have n1_ : iC (Below w.heap.size w ((w22.setCell ⟨gb108, 0, none⟩ (.int .u32 ((iU l0 x7_1).f0))).setCell ⟨gb108, 1, none⟩ (.slice A107_1 ((iU l0 x7_1).f1).length c107_1))) := ⟨by repeat (first | (with_reducible first | exact HB.out | apply iG | apply iF | apply iJ | refine iH ?_ GE108.out) | exact HB.out)⟩
        (try clear BK108)
        (try clear HB)
        generalize ((w22.setCell ⟨gb108, 0, none⟩ (.int .u32 ((iU l0 x7_1).f0))).setCell ⟨gb108, 1, none⟩ (.slice A107_1 ((iU l0 x7_1).f1).length c107_1)) = w24 at n0_ n1_ ⊢
        have BK108 := n0_
        have HB := n1_
        clear n0_ n1_
        have n0_ := iC.mk (iM BK108.out)
        have n1_ := iC.mk (iJ HB.out)
        clear BK108
        clear HB
        have BK108 := n0_
        have HB := n1_
        clear n0_ n1_
        refine qY (n := 19) (S := fun w' => w'.cell? ⟨gb108, 0, none⟩ = some (.int .u32 ((iU l0 x7_1).f0)) ∧ w'.cell? ⟨gb108, 1, none⟩ = some (.slice A107_1 ((iU l0 x7_1).f1).length c107_1)) (ds := []) #[false, false, false, false, false, false, false, false, false, false, false, false, false, false, false, false, false, false, false] (by kernel_rfl) rfl rfl ⟨(iE BK108.out 0).trans rfl, (iE BK108.out 1).trans rfl⟩ (fun hHeld => ?_); refine mZ code_history.tab4 code_history.bits4 (fun HT_ HW_ => ?_)
        generalize w24.drew = w25 at BK108 HB hHeld ⊢
        refine jL (i := 0) (N := some 12) (v := ?_) (a' := ?_) #[true, false, false, false, false, false, false, false, false, false, false, false, false, false, false, false, false, false, false] rfl rfl (jF HT_.out (by kernel_rfl)) (fun _ _ _ h => h) (Or.inl ⟨by rfl, ?_⟩) ?_ ?_
        rotate_left
        ·intro w'
         go_simp
         with_reducible rfl
        rotate_left
        ·simp only [Act.put, List.setIfInBounds_toArray, List.set_cons_zero, List.set_cons_succ, iR, jG]
         rfl
        refine rW (i := 1) (N := some 13) (v := ?_) (a' := ?_) #[true, true, false, false, false, false, false, false, false, false, false, false, false, false, false, false, false, false, false] rfl rfl (lI HT_.out HW_.out (by kernel_rfl)) (fun _ _ _ h => h) (Or.inl ⟨by rfl, ?_⟩) hHeld ?_ ?_
        rotate_left
        ·rintro w' ⟨s0, s1⟩
         go_simp
         with_reducible rfl
        rotate_left
        ·simp only [Act.put, List.setIfInBounds_toArray, List.set_cons_zero, List.set_cons_succ, iR, jG]
         rfl
        refine one_ (i := 2) (N := some 14) #[true, true, true, false, false, false, false, false, false, false, false, false, false, false, false, false, false, false, false] rfl rfl (lW HT_.out (by kernel_rfl)) (by decide) (fun K hK => ?_)
        refine qC Tryd.func62 (by kernel_rfl) rfl #[.slice A107_1 ((iU l0 x7_1).f1).length c107_1] (by rfl) rfl rfl (by (try simp only [List.map_toArray, List.map_cons, List.map_nil]); first | done | rfl | (simp only [List.length_drop, List.length_take]; rfl)) ?_
        with_reducible refine (code_batch.calls _ _ ((iU l0 x7_1).f1) true _ ?side1 ?side2 A5.out).mono ?_
        (case side1 => repeat (first | exact (Kd.C_below HR107_1.out HB.out) | (with_reducible refine Kd.C_alloc ?_ _) | (with_reducible refine Kd.C_drewN ?_ _) | (with_reducible refine Kd.C_drew ?_)))
        (case side2 => exact HC107_1.out)
        rintro e w26 ⟨rfl, hb⟩
        refine ⟨_, rfl, ?_⟩
        have n0_ := iC.mk (jS (g := gb108) (o := .cells #[.int .u32 ((iU l0 x7_1).f0), .slice A107_1 ((iU l0 x7_1).f1).length c107_1] 86 (0, 0)) (bk_ BK108.out) hb)
        have n1_ := iC.mk (iK (by repeat (first | (with_reducible first | exact HB.out | apply iG | apply iF | apply iJ | refine iH ?_ GE108.out) | exact HB.out)) hb)
        clear BK108
        clear HB
        have BK108 := n0_
        have HB := n1_
        clear n0_ n1_
        (try clear hb)
        (try clear hb2)
        (try clear hk)
        (try clear hi)
        refine hK.out _ _ ⟨(iE BK108.out 0).trans rfl, (iE BK108.out 1).trans rfl⟩ (fun hHeld => ?_)
        clear hK K
        refine lN (a' := ?_) ?_ ?_
        rotate_left
        ·show Act.put _ (some 14) _ = _
         simp only [Act.put, List.setIfInBounds_toArray, List.set_cons_zero, List.set_cons_succ, iR, jG]
         rfl
        refine jL (i := 3) (N := some 15) (v := ?_) (a' := ?_) #[true, true, true, true, false, false, false, false, false, false, false, false, false, false, false, false, false, false, false] rfl rfl (jF HT_.out (by kernel_rfl)) (fun _ _ _ h => h) (Or.inl ⟨by rfl, ?_⟩) ?_ ?_
        rotate_left
        ·intro w'
         go_simp
         with_reducible rfl
        rotate_left
        ·simp only [Act.put, List.setIfInBounds_toArray, List.set_cons_zero, List.set_cons_succ, iR, jG]
         rfl
        refine jL (i := 4) (N := some 16) (v := ?_) (a' := ?_) #[true, true, true, true, true, false, false, false, false, false, false, false, false, false, false, false, false, false, false] rfl rfl (jF HT_.out (by kernel_rfl)) (fun _ _ _ h => h) (Or.inl ⟨by rfl, ?_⟩) ?_ ?_
        rotate_left
        ·intro w'
         go_simp
         with_reducible rfl
        rotate_left
        ·simp only [Act.put, List.setIfInBounds_toArray, List.set_cons_zero, List.set_cons_succ, iR, jG]
         rfl
        refine jL (i := 5) (N := some 17) (v := ?_) (a' := ?_) #[true, true, true, true, true, true, false, false, false, false, false, false, false, false, false, false, false, false, false] rfl rfl (jF HT_.out (by kernel_rfl)) (fun _ _ _ h => h) (Or.inl ⟨by rfl, ?_⟩) ?_ ?_
        rotate_left
        ·intro w'
         go_simp
         with_reducible rfl
        rotate_left
        ·simp only [Act.put, List.setIfInBounds_toArray, List.set_cons_zero, List.set_cons_succ, iR, jG]
         rfl
        refine jL (i := 6) (N := some 18) (v := ?_) (a' := ?_) #[true, true, true, true, true, true, true, false, false, false, false, false, false, false, false, false, false, false, false] rfl rfl (jF HT_.out (by kernel_rfl)) (fun _ _ _ h => h) (Or.inl ⟨by rfl, ?_⟩) ?_ ?_
        rotate_left
        ·intro w'
         go_simp
         with_reducible rfl
        rotate_left
        ·simp only [Act.put, List.setIfInBounds_toArray, List.set_cons_zero, List.set_cons_succ, iR, jG]
         rfl
        refine jL (i := 7) (N := some 19) (v := ?_) (a' := ?_) #[true, true, true, true, true, true, true, true, false, false, false, false, false, false, false, false, false, false, false] rfl rfl (jF HT_.out (by kernel_rfl)) (fun _ _ _ h => h) (Or.inl ⟨by rfl, ?_⟩) ?_ ?_
        rotate_left
        ·intro w'
         go_simp
         with_reducible rfl
        rotate_left
        ·simp only [Act.put, List.setIfInBounds_toArray, List.set_cons_zero, List.set_cons_succ, iR, jG]
         rfl
        refine jL (i := 8) (N := some 20) (v := undef) (a' := ?_) #[true, true, true, true, true, true, true, true, true, false, false, false, false, false, false, false, false, false, false] rfl rfl (jF HT_.out (by kernel_rfl)) (fun _ _ _ h => h) (Or.inr ⟨by rfl, rfl⟩) ?_ ?_
        rotate_left
        ·simp only [Act.put, List.setIfInBounds_toArray, List.set_cons_zero, List.set_cons_succ, iR, jG]
         rfl
        refine jL (i := 9) (N := some 21) (v := undef) (a' := ?_) #[true, true, true, true, true, true, true, true, true, true, false, false, false, false, false, false, false, false, false] rfl rfl (jF HT_.out (by kernel_rfl)) (fun _ _ _ h => h) (Or.inr ⟨by rfl, rfl⟩) ?_ ?_
        rotate_left
        ·simp only [Act.put, List.setIfInBounds_toArray, List.set_cons_zero, List.set_cons_succ, iR, jG]
         rfl
        refine jL (i := 10) (N := some 22) (v := undef) (a' := ?_) #[true, true, true, true, true, true, true, true, true, true, true, false, false, false, false, false, false, false, false] rfl rfl (jF HT_.out (by kernel_rfl)) (fun _ _ _ h => h) (Or.inr ⟨by rfl, rfl⟩) ?_ ?_
        rotate_left
        ·simp only [Act.put, List.setIfInBounds_toArray, List.set_cons_zero, List.set_cons_succ, iR, jG]
         rfl
        refine jL (i := 11) (N := some 23) (v := undef) (a' := ?_) #[true, true, true, true, true, true, true, true, true, true, true, true, false, false, false, false, false, false, false] rfl rfl (jF HT_.out (by kernel_rfl)) (fun _ _ _ h => h) (Or.inr ⟨by rfl, rfl⟩) ?_ ?_
        rotate_left
        ·simp only [Act.put, List.setIfInBounds_toArray, List.set_cons_zero, List.set_cons_succ, iR, jG]
         rfl
        refine jL (i := 12) (N := some 24) (v := undef) (a' := ?_) #[true, true, true, true, true, true, true, true, true, true, true, true, true, false, false, false, false, false, false] rfl rfl (jF HT_.out (by kernel_rfl)) (fun _ _ _ h => h) (Or.inr ⟨by rfl, rfl⟩) ?_ ?_
        rotate_left
        ·simp only [Act.put, List.setIfInBounds_toArray, List.set_cons_zero, List.set_cons_succ, iR, jG]
         rfl
        refine jL (i := 13) (N := some 25) (v := undef) (a' := ?_) #[true, true, true, true, true, true, true, true, true, true, true, true, true, true, false, false, false, false, false] rfl rfl (jF HT_.out (by kernel_rfl)) (fun _ _ _ h => h) (Or.inr ⟨by rfl, rfl⟩) ?_ ?_
        rotate_left
        ·simp only [Act.put, List.setIfInBounds_toArray, List.set_cons_zero, List.set_cons_succ, iR, jG]
         rfl
        refine jL (i := 14) (N := some 26) (v := undef) (a' := ?_) #[true, true, true, true, true, true, true, true, true, true, true, true, true, true, true, false, false, false, false] rfl rfl (jF HT_.out (by kernel_rfl)) (fun _ _ _ h => h) (Or.inr ⟨by rfl, rfl⟩) ?_ ?_
        rotate_left
        ·simp only [Act.put, List.setIfInBounds_toArray, List.set_cons_zero, List.set_cons_succ, iR, jG]
         rfl
        refine jL (i := 15) (N := some 27) (v := undef) (a' := ?_) #[true, true, true, true, true, true, true, true, true, true, true, true, true, true, true, true, false, false, false] rfl rfl (jF HT_.out (by kernel_rfl)) (fun _ _ _ h => h) (Or.inr ⟨by rfl, rfl⟩) ?_ ?_
        rotate_left
        ·simp only [Act.put, List.setIfInBounds_toArray, List.set_cons_zero, List.set_cons_succ, iR, jG]
         rfl
        refine jL (i := 16) (N := some 28) (v := undef) (a' := ?_) #[true, true, true, true, true, true, true, true, true, true, true, true, true, true, true, true, true, false, false] rfl rfl (jF HT_.out (by kernel_rfl)) (fun _ _ _ h => h) (Or.inr ⟨by rfl, rfl⟩) ?_ ?_
        rotate_left
        ·simp only [Act.put, List.setIfInBounds_toArray, List.set_cons_zero, List.set_cons_succ, iR, jG]
         rfl
        refine jL (i := 17) (N := some 29) (v := ?_) (a' := ?_) #[true, true, true, true, true, true, true, true, true, true, true, true, true, true, true, true, true, true, false] rfl rfl (jF HT_.out (by kernel_rfl)) (fun _ _ _ h => h) (Or.inl ⟨by rfl, ?_⟩) ?_ ?_
        rotate_left
        ·intro w'
         go_simp
         with_reducible rfl
        rotate_left
        ·simp only [Act.put, List.setIfInBounds_toArray, List.set_cons_zero, List.set_cons_succ, iR, jG]
         rfl
        refine jL (i := 18) (N := some 30) (v := ?_) (a' := ?_) #[true, true, true, true, true, true, true, true, true, true, true, true, true, true, true, true, true, true, true] rfl rfl (jF HT_.out (by kernel_rfl)) (fun _ _ _ h => h) (Or.inl ⟨by rfl, ?_⟩) ?_ ?_
        rotate_left
        ·intro w'
         go_simp
         with_reducible rfl
        rotate_left
        ·simp only [Act.put, List.setIfInBounds_toArray, List.set_cons_zero, List.set_cons_succ, iR, jG]
         rfl
        refine JA (qG HT_.out (by kernel_rfl)) ?_
        try go_wp2
        go_roundg k1
        case measure => have := HK1.out; omega
        case rel => exact ⟨(wrap64 (x7_1 + 1)), (by first | rfl | (simp; done) | (simp [*]; done)), H', ⟨by have := HK1.out; omega⟩, ⟨by repeat (first | (with_reducible first | exact HB.out | apply iG | apply iF | apply iJ | refine iH ?_ GE108.out) | exact HB.out)⟩⟩
      ·replace c6 := Bool.eq_false_iff.mpr c6
       subst c6
       have H1 : (some false) = some r := by rw [if_neg (show ¬ (false = true) by decide)] at H; exact H
       clear H
       have H := H1
       clear H1
       obtain rfl := Option.some.inj H
       have p107 : 0 ≤ (x7_1 : Int) := of_decide_eq_true asm_
       have q107 : x7_1 < (l0.length : Int) := of_decide_eq_true asm_
       obtain ⟨ad107, A107_1, c107_1, e107, hx107_0, hx107_1, hl107_1, hi107_1⟩ := pJ HR0.out x7_1 p107 q107
       cases e107
       replace hx107_0 := (HB.out.cell (World.block_lt_of_cell? w _ hx107_0)).trans hx107_0
       replace hx107_1 := (HB.out.cell (World.block_lt_of_cell? w _ hx107_1)).trans hx107_1
       have HR107_1 := iC.mk hi107_1
       have HC107_1 := iC.mk hl107_1
       clear hi107_1 hl107_1
       replace p107 := eq_true p107
       replace q107 := eq_true q107
       try go_wp2_with (first | ((with_reducible refine jY (N := 4) rfl ?_); refine jQ ?hg (N := 4) ?hd (cs := #[.int .u32 0, .slice none 0 0]) (t := 86) ?hr ?_; (case hd => rfl); (case hg => rfl); (case hr => first | (go_simp; done) | (go_simp; rfl)); intro gb108 hg w27 hbox hb; have n0_ := iC.mk (iK hb_ hb); have n1_ := iC.mk (hbox); have n2_ := iC.mk ((by rw [hg]; exact (iQ hb_) : w.heap.size ≤ gb108)); have n3_ := iC.mk ((by rw [hg]; exact (iQ hb_) : w.heap.size ≤ gb108)); clear HB; have HB := n0_; have BK108 := n1_; have GW108 := n2_; have GE108 := n3_; clear n0_ n1_ n2_ n3_; clear hb hbox hg; have hcz28_0 : w27.cell? ⟨gb108, 0, none⟩ = some (.int .u32 0) := (iE BK108.out 0).trans rfl; have hcz28_1 : w27.cell? ⟨gb108, 1, none⟩ = some (.slice none 0 0) := (iE BK108.out 1).trans rfl; have hfz28_0 := iD BK108.out 0; have hfz28_1 := iD BK108.out 1))
       have n0_ : iC (((w27.setCell ⟨gb108, 0, none⟩ (.int .u32 ((iU l0 x7_1).f0))).setCell ⟨gb108, 1, none⟩ (.slice A107_1 ((iU l0 x7_1).f1).length c107_1)).heap[gb108]? = some (.cells #[.int .u32 ((iU l0 x7_1).f0), .slice A107_1 ((iU l0 x7_1).f1).length c107_1] 86 (0, 0))) := ⟨by (with_reducible repeat (first | refine iL ?_ _ | refine iM ?_ | refine iI ?_ _)); refine iY (cs := #[.int .u32 ((iU l0 x7_1).f0), .slice none 0 0]) ?_ 1 _ rfl; (with_reducible repeat (first | refine iL ?_ _ | refine iM ?_ | refine iI ?_ _)); refine iY (cs := #[.int .u32 0, .slice none 0 0]) ?_ 0 _ rfl; (with_reducible repeat (first | refine iL ?_ _ | refine iM ?_ | refine iI ?_ _)); exact BK108.out⟩
       have n1_ : iC (Below w.heap.size w ((w27.setCell ⟨gb108, 0, none⟩ (.int .u32 ((iU l0 x7_1).f0))).setCell ⟨gb108, 1, none⟩ (.slice A107_1 ((iU l0 x7_1).f1).length c107_1))) := ⟨by repeat (first | (with_reducible first | exact HB.out | apply iG | apply iF | apply iJ | refine iH ?_ GE108.out) | exact HB.out)⟩
       (try clear BK108)
       (try clear HB)
       generalize ((w27.setCell ⟨gb108, 0, none⟩ (.int .u32 ((iU l0 x7_1).f0))).setCell ⟨gb108, 1, none⟩ (.slice A107_1 ((iU l0 x7_1).f1).length c107_1)) = w29 at n0_ n1_ ⊢
       have BK108 := n0_
       have HB := n1_
       clear n0_ n1_
       have n0_ := iC.mk (iM BK108.out)
       have n1_ := iC.mk (iJ HB.out)
       clear BK108
       clear HB
       have BK108 := n0_
       have HB := n1_
       clear n0_ n1_
       refine qY (n := 19) (S := fun w' => w'.cell? ⟨gb108, 0, none⟩ = some (.int .u32 ((iU l0 x7_1).f0)) ∧ w'.cell? ⟨gb108, 1, none⟩ = some (.slice A107_1 ((iU l0 x7_1).f1).length c107_1)) (ds := []) #[false, false, false, false, false, false, false, false, false, false, false, false, false, false, false, false, false, false, false] (by kernel_rfl) rfl rfl ⟨(iE BK108.out 0).trans rfl, (iE BK108.out 1).trans rfl⟩ (fun hHeld => ?_); refine mZ code_history.tab4 code_history.bits4 (fun HT_ HW_ => ?_)
       generalize w29.drew = w30 at BK108 HB hHeld ⊢
       refine jL (i := 0) (N := some 12) (v := ?_) (a' := ?_) #[true, false, false, false, false, false, false, false, false, false, false, false, false, false, false, false, false, false, false] rfl rfl (jF HT_.out (by kernel_rfl)) (fun _ _ _ h => h) (Or.inl ⟨by rfl, ?_⟩) ?_ ?_
       rotate_left
       ·intro w'
        go_simp
        with_reducible rfl
       rotate_left
       ·simp only [Act.put, List.setIfInBounds_toArray, List.set_cons_zero, List.set_cons_succ, iR, jG]
        rfl
       refine rW (i := 1) (N := some 13) (v := ?_) (a' := ?_) #[true, true, false, false, false, false, false, false, false, false, false, false, false, false, false, false, false, false, false] rfl rfl (lI HT_.out HW_.out (by kernel_rfl)) (fun _ _ _ h => h) (Or.inl ⟨by rfl, ?_⟩) hHeld ?_ ?_
       rotate_left
       ·rintro w' ⟨s0, s1⟩
        go_simp
        with_reducible rfl
       rotate_left
       ·simp only [Act.put, List.setIfInBounds_toArray, List.set_cons_zero, List.set_cons_succ, iR, jG]
        rfl
       refine one_ (i := 2) (N := some 14) #[true, true, true, false, false, false, false, false, false, false, false, false, false, false, false, false, false, false, false] rfl rfl (lW HT_.out (by kernel_rfl)) (by decide) (fun K hK => ?_)
       refine qC Tryd.func62 (by kernel_rfl) rfl #[.slice A107_1 ((iU l0 x7_1).f1).length c107_1] (by rfl) rfl rfl (by (try simp only [List.map_toArray, List.map_cons, List.map_nil]); first | done | rfl | (simp only [List.length_drop, List.length_take]; rfl)) ?_
       with_reducible refine (code_batch.calls _ _ ((iU l0 x7_1).f1) false _ ?side1 ?side2 A5.out).mono ?_
       (case side1 => repeat (first | exact (Kd.C_below HR107_1.out HB.out) | (with_reducible refine Kd.C_alloc ?_ _) | (with_reducible refine Kd.C_drewN ?_ _) | (with_reducible refine Kd.C_drew ?_)))
       (case side2 => exact HC107_1.out)
       rintro e w31 ⟨rfl, hb⟩
       refine ⟨_, rfl, ?_⟩
       have n0_ := iC.mk (jS (g := gb108) (o := .cells #[.int .u32 ((iU l0 x7_1).f0), .slice A107_1 ((iU l0 x7_1).f1).length c107_1] 86 (0, 0)) (bk_ BK108.out) hb)
       have n1_ := iC.mk (iK (by repeat (first | (with_reducible first | exact HB.out | apply iG | apply iF | apply iJ | refine iH ?_ GE108.out) | exact HB.out)) hb)
       clear BK108
       clear HB
       have BK108 := n0_
       have HB := n1_
       clear n0_ n1_
       (try clear hb)
       (try clear hb2)
       (try clear hk)
       (try clear hi)
       refine hK.out _ _ ⟨(iE BK108.out 0).trans rfl, (iE BK108.out 1).trans rfl⟩ (fun hHeld => ?_)
       clear hK K
       refine lN (a' := ?_) ?_ ?_
       rotate_left
       ·show Act.put _ (some 14) _ = _
        simp only [Act.put, List.setIfInBounds_toArray, List.set_cons_zero, List.set_cons_succ, iR, jG]
        rfl
       refine jL (i := 3) (N := some 15) (v := ?_) (a' := ?_) #[true, true, true, true, false, false, false, false, false, false, false, false, false, false, false, false, false, false, false] rfl rfl (jF HT_.out (by kernel_rfl)) (fun _ _ _ h => h) (Or.inl ⟨by rfl, ?_⟩) ?_ ?_
       rotate_left
       ·intro w'
        go_simp
        with_reducible rfl
       rotate_left
       ·simp only [Act.put, List.setIfInBounds_toArray, List.set_cons_zero, List.set_cons_succ, iR, jG]
        rfl
       refine jL (i := 4) (N := some 16) (v := ?_) (a' := ?_) #[true, true, true, true, true, false, false, false, false, false, false, false, false, false, false, false, false, false, false] rfl rfl (jF HT_.out (by kernel_rfl)) (fun _ _ _ h => h) (Or.inl ⟨by rfl, ?_⟩) ?_ ?_
       rotate_left
       ·intro w'
        go_simp
        with_reducible rfl
       rotate_left
       ·simp only [Act.put, List.setIfInBounds_toArray, List.set_cons_zero, List.set_cons_succ, iR, jG]
        rfl
       refine jL (i := 5) (N := some 17) (v := undef) (a' := ?_) #[true, true, true, true, true, true, false, false, false, false, false, false, false, false, false, false, false, false, false] rfl rfl (jF HT_.out (by kernel_rfl)) (fun _ _ _ h => h) (Or.inr ⟨by rfl, rfl⟩) ?_ ?_
       rotate_left
       ·simp only [Act.put, List.setIfInBounds_toArray, List.set_cons_zero, List.set_cons_succ, iR, jG]
        rfl
       refine jL (i := 6) (N := some 18) (v := undef) (a' := ?_) #[true, true, true, true, true, true, true, false, false, false, false, false, false, false, false, false, false, false, false] rfl rfl (jF HT_.out (by kernel_rfl)) (fun _ _ _ h => h) (Or.inr ⟨by rfl, rfl⟩) ?_ ?_
       rotate_left
       ·simp only [Act.put, List.setIfInBounds_toArray, List.set_cons_zero, List.set_cons_succ, iR, jG]
        rfl
       refine jL (i := 7) (N := some 19) (v := undef) (a' := ?_) #[true, true, true, true, true, true, true, true, false, false, false, false, false, false, false, false, false, false, false] rfl rfl (jF HT_.out (by kernel_rfl)) (fun _ _ _ h => h) (Or.inr ⟨by rfl, rfl⟩) ?_ ?_
       rotate_left
       ·simp only [Act.put, List.setIfInBounds_toArray, List.set_cons_zero, List.set_cons_succ, iR, jG]
        rfl
       refine jL (i := 8) (N := some 20) (v := undef) (a' := ?_) #[true, true, true, true, true, true, true, true, true, false, false, false, false, false, false, false, false, false, false] rfl rfl (jF HT_.out (by kernel_rfl)) (fun _ _ _ h => h) (Or.inr ⟨by rfl, rfl⟩) ?_ ?_
       rotate_left
       ·simp only [Act.put, List.setIfInBounds_toArray, List.set_cons_zero, List.set_cons_succ, iR, jG]
        rfl
       refine jL (i := 9) (N := some 21) (v := undef) (a' := ?_) #[true, true, true, true, true, true, true, true, true, true, false, false, false, false, false, false, false, false, false] rfl rfl (jF HT_.out (by kernel_rfl)) (fun _ _ _ h => h) (Or.inr ⟨by rfl, rfl⟩) ?_ ?_
       rotate_left
       ·simp only [Act.put, List.setIfInBounds_toArray, List.set_cons_zero, List.set_cons_succ, iR, jG]
        rfl
       refine jL (i := 10) (N := some 22) (v := undef) (a' := ?_) #[true, true, true, true, true, true, true, true, true, true, true, false, false, false, false, false, false, false, false] rfl rfl (jF HT_.out (by kernel_rfl)) (fun _ _ _ h => h) (Or.inr ⟨by rfl, rfl⟩) ?_ ?_
       rotate_left
       ·simp only [Act.put, List.setIfInBounds_toArray, List.set_cons_zero, List.set_cons_succ, iR, jG]
        rfl
       refine jL (i := 11) (N := some 23) (v := undef) (a' := ?_) #[true, true, true, true, true, true, true, true, true, true, true, true, false, false, false, false, false, false, false] rfl rfl (jF HT_.out (by kernel_rfl)) (fun _ _ _ h => h) (Or.inr ⟨by rfl, rfl⟩) ?_ ?_
       rotate_left
       ·simp only [Act.put, List.setIfInBounds_toArray, List.set_cons_zero, List.set_cons_succ, iR, jG]
        rfl
       refine jL (i := 12) (N := some 24) (v := undef) (a' := ?_) #[true, true, true, true, true, true, true, true, true, true, true, true, true, false, false, false, false, false, false] rfl rfl (jF HT_.out (by kernel_rfl)) (fun _ _ _ h => h) (Or.inr ⟨by rfl, rfl⟩) ?_ ?_
       rotate_left
       ·simp only [Act.put, List.setIfInBounds_toArray, List.set_cons_zero, List.set_cons_succ, iR, jG]
        rfl
       refine jL (i := 13) (N := some 25) (v := undef) (a' := ?_) #[true, true, true, true, true, true, true, true, true, true, true, true, true, true, false, false, false, false, false] rfl rfl (jF HT_.out (by kernel_rfl)) (fun _ _ _ h => h) (Or.inr ⟨by rfl, rfl⟩) ?_ ?_
       rotate_left
       ·simp only [Act.put, List.setIfInBounds_toArray, List.set_cons_zero, List.set_cons_succ, iR, jG]
        rfl
       refine jL (i := 14) (N := some 26) (v := undef) (a' := ?_) #[true, true, true, true, true, true, true, true, true, true, true, true, true, true, true, false, false, false, false] rfl rfl (jF HT_.out (by kernel_rfl)) (fun _ _ _ h => h) (Or.inr ⟨by rfl, rfl⟩) ?_ ?_
       rotate_left
       ·simp only [Act.put, List.setIfInBounds_toArray, List.set_cons_zero, List.set_cons_succ, iR, jG]
        rfl
       refine jL (i := 15) (N := some 27) (v := undef) (a' := ?_) #[true, true, true, true, true, true, true, true, true, true, true, true, true, true, true, true, false, false, false] rfl rfl (jF HT_.out (by kernel_rfl)) (fun _ _ _ h => h) (Or.inr ⟨by rfl, rfl⟩) ?_ ?_
       rotate_left
       ·simp only [Act.put, List.setIfInBounds_toArray, List.set_cons_zero, List.set_cons_succ, iR, jG]
        rfl
       refine jL (i := 16) (N := some 28) (v := undef) (a' := ?_) #[true, true, true, true, true, true, true, true, true, true, true, true, true, true, true, true, true, false, false] rfl rfl (jF HT_.out (by kernel_rfl)) (fun _ _ _ h => h) (Or.inr ⟨by rfl, rfl⟩) ?_ ?_
       rotate_left
       ·simp only [Act.put, List.setIfInBounds_toArray, List.set_cons_zero, List.set_cons_succ, iR, jG]
        rfl
       refine jL (i := 17) (N := some 29) (v := undef) (a' := ?_) #[true, true, true, true, true, true, true, true, true, true, true, true, true, true, true, true, true, true, false] rfl rfl (jF HT_.out (by kernel_rfl)) (fun _ _ _ h => h) (Or.inr ⟨by rfl, rfl⟩) ?_ ?_
       rotate_left
       ·simp only [Act.put, List.setIfInBounds_toArray, List.set_cons_zero, List.set_cons_succ, iR, jG]
        rfl
       refine jL (i := 18) (N := some 30) (v := ?_) (a' := ?_) #[true, true, true, true, true, true, true, true, true, true, true, true, true, true, true, true, true, true, true] rfl rfl (jF HT_.out (by kernel_rfl)) (fun _ _ _ h => h) (Or.inl ⟨by rfl, ?_⟩) ?_ ?_
       rotate_left
       ·intro w'
        go_simp
        with_reducible rfl
       rotate_left
       ·simp only [Act.put, List.setIfInBounds_toArray, List.set_cons_zero, List.set_cons_succ, iR, jG]
        rfl
       refine JA (qG HT_.out (by kernel_rfl)) ?_
       try go_wp2
       go_ret
       exact ⟨by first | rfl | (simp [iW, iV] <;> rfl) | (simp [*, iW, iV] <;> rfl), by repeat (first | (with_reducible first | exact HB.out | apply iG | apply iF | apply iJ | refine iH ?_ GE108.out) | exact HB.out)⟩
     ·rw [if_neg c4] at H
      exact absurd H (by simp)
    ·rw [if_neg c3] at H
     exact absurd H (by simp)
   ·rw [if_neg c2] at H
    have c2b0 : decide (x7_1 < (l0.length : Int)) = false := decide_eq_false c2
    clear c2
    obtain rfl := Option.some.inj H
    go_wp2
    go_ret
    exact ⟨by first | rfl | (simp [iW, iV] <;> rfl) | (simp [*, iW, iV] <;> rfl), hb_⟩
end Go.Proofs.YtgfkgppomaapiaaDoor.K
end

section
namespace Go.Proofs.YtgfkgppomaapiaaDoor.K
open Go.RowKit Go.Proofs.YtgfkgppomaapiaaDoorW.PrintWords Go.Proofs.YtgfkgppomaapiaaDoorW.PrintLast Go.Proofs.YtgfkgppomaapiaaDoorW.PrintMore
attribute [local go_sem] kF kD kN kM
def code_plain.f (a0_0 : Int) (a0_1 : Int) (a0_2 : Int) (l0_3 : List Int) (l0_4 : List (S139)) (a0_5 : Int) (l0_6 : List (S98)) (a0_7 : Int) (a0_8 : Int) (l0_9 : List (S86)) : Option (Bool) := if a0_0 = 0 then (if a0_1 = 0 then (if a0_2 = 0 then (if (l0_3.length : Int) = 0 then (if (l0_4.length : Int) = 0 then (if a0_5 = 0 then (if (l0_6.length : Int) = 0 then (if a0_7 = 0 then (if a0_8 = 0 then (some ((l0_9.length : Int) == 0)) else (some false)) else (some false)) else (some false)) else (some false)) else (some false)) else (some false)) else (some false)) else (some false)) else (some false)
set_option maxHeartbeats 8000000 in
set_option maxRecDepth 100000 in
theorem code_plain.calls (a0_0 : Int) (a0_1 : Int) (a0_2 : Int) (A0_3 : Option Addr) (c0_3 : Nat) (l0_3 : List Int) (A0_4 : Option Addr) (c0_4 : Nat) (l0_4 : List (S139)) (a0_5 : Int) (A0_6 : Option Addr) (c0_6 : Nat) (l0_6 : List (S98)) (a0_7 : Int) (a0_8 : Int) (A0_9 : Option Addr) (c0_9 : Nat) (l0_9 : List (S86)) (r : Bool) (w : World) (hr0_3 : Kd.C (Kd.int .i64) w A0_3 l0_3.length l0_3) (hc0_3 : l0_3.length ≤ c0_3) (hr0_4 : Kd.C k139 w A0_4 l0_4.length l0_4) (hc0_4 : l0_4.length ≤ c0_4) (hr0_6 : Kd.C k98 w A0_6 l0_6.length l0_6) (hc0_6 : l0_6.length ≤ c0_6) (hr0_9 : Kd.C k86 w A0_9 l0_9.length l0_9) (hc0_9 : l0_9.length ≤ c0_9) (h : code_plain.f a0_0 a0_1 a0_2 l0_3 l0_4 a0_5 l0_6 a0_7 a0_8 l0_9 = some r) :
  Calls Tryd.prog 67 #[.agg #[.int .u8 a0_0, .int .u32 a0_1, .int .u32 a0_2, .slice A0_3 l0_3.length c0_3, .slice A0_4 l0_4.length c0_4, .int .u32 a0_5, .slice A0_6 l0_6.length c0_6, .int .i64 a0_7, .int .i64 a0_8, .slice A0_9 l0_9.length c0_9]] w fun e w' => e = .returned (.bool r) ∧ Below w.heap.size w w' := by
 have hu30 := Tryd.underlying30
 have HR0_3 := iC.mk hr0_3
 have HC0_3 := iC.mk hc0_3
 clear hr0_3 hc0_3
 have HR0_4 := iC.mk hr0_4
 have HC0_4 := iC.mk hc0_4
 clear hr0_4 hc0_4
 have HR0_6 := iC.mk hr0_6
 have HC0_6 := iC.mk hc0_6
 clear hr0_6 hc0_6
 have HR0_9 := iC.mk hr0_9
 have HC0_9 := iC.mk hc0_9
 clear hr0_9 hc0_9
 have HB := iC.mk (Below.refl w.heap.size w)
 have H : (if a0_0 = 0 then (if a0_1 = 0 then (if a0_2 = 0 then (if (l0_3.length : Int) = 0 then (if (l0_4.length : Int) = 0 then (if a0_5 = 0 then (if (l0_6.length : Int) = 0 then (if a0_7 = 0 then (if a0_8 = 0 then (some ((l0_9.length : Int) == 0)) else (some false)) else (some false)) else (some false)) else (some false)) else (some false)) else (some false)) else (some false)) else (some false)) else (some false)) = some r := h
 clear h
 by_cases c2 : a0_0 = 0
 ·rw [if_pos c2] at H
  have c2b0 : (a0_0 == 0) = true := beq_iff_eq.mpr c2
  have c2b1 : (a0_0 != 0) = false := bne_eq_false_iff_eq.mpr c2
  clear c2
  by_cases c3 : a0_1 = 0
  ·rw [if_pos c3] at H
   have c3b0 : (a0_1 == 0) = true := beq_iff_eq.mpr c3
   have c3b1 : (a0_1 != 0) = false := bne_eq_false_iff_eq.mpr c3
   clear c3
   by_cases c4 : a0_2 = 0
   ·rw [if_pos c4] at H
    have c4b0 : (a0_2 == 0) = true := beq_iff_eq.mpr c4
    have c4b1 : (a0_2 != 0) = false := bne_eq_false_iff_eq.mpr c4
    clear c4
    by_cases c5 : (l0_3.length : Int) = 0
    ·rw [if_pos c5] at H
     have c5b0 : ((l0_3.length : Int) == 0) = true := beq_iff_eq.mpr c5
     have c5b1 : ((l0_3.length : Int) != 0) = false := bne_eq_false_iff_eq.mpr c5
     clear c5
     by_cases c6 : (l0_4.length : Int) = 0
     ·rw [if_pos c6] at H
      have c6b0 : ((l0_4.length : Int) == 0) = true := beq_iff_eq.mpr c6
      have c6b1 : ((l0_4.length : Int) != 0) = false := bne_eq_false_iff_eq.mpr c6
      clear c6
      by_cases c7 : a0_5 = 0
      ·rw [if_pos c7] at H
       have c7b0 : (a0_5 == 0) = true := beq_iff_eq.mpr c7
       have c7b1 : (a0_5 != 0) = false := bne_eq_false_iff_eq.mpr c7
       clear c7
       by_cases c8 : (l0_6.length : Int) = 0
       ·rw [if_pos c8] at H
        have c8b0 : ((l0_6.length : Int) == 0) = true := beq_iff_eq.mpr c8
        have c8b1 : ((l0_6.length : Int) != 0) = false := bne_eq_false_iff_eq.mpr c8
        clear c8
        by_cases c9 : a0_7 = 0
        ·rw [if_pos c9] at H
         have c9b0 : (a0_7 == 0) = true := beq_iff_eq.mpr c9
         have c9b1 : (a0_7 != 0) = false := bne_eq_false_iff_eq.mpr c9
         clear c9
         by_cases c10 : a0_8 = 0
         ·rw [if_pos c10] at H
          have c10b0 : (a0_8 == 0) = true := beq_iff_eq.mpr c10
          have c10b1 : (a0_8 != 0) = false := bne_eq_false_iff_eq.mpr c10
          clear c10
          obtain rfl := Option.some.inj H
          go_enter Tryd.func67, Tryd.ntmps67
          go_wp2_with (first | ((with_reducible refine jY (N := 1) rfl ?_); (try (refine kJ (by rfl) ?_; dsimp only)); refine jQ ?hg (N := 1) ?hd (cs := #[.int .u8 a0_0, .int .u32 a0_1, .int .u32 a0_2, .slice A0_3 l0_3.length c0_3, .slice A0_4 l0_4.length c0_4, .int .u32 a0_5, .slice A0_6 l0_6.length c0_6, .int .i64 a0_7, .int .i64 a0_8, .slice A0_9 l0_9.length c0_9]) (t := 30) ?hr ?_; (case hd => rfl); (case hg => rfl); (case hr => first | (go_simp; done) | (go_simp; rfl)); intro gb111 hg w11 hbox hb; have n0_ := iC.mk (iK hb_ hb); have n1_ := iC.mk (hbox); have n2_ := iC.mk ((by rw [hg]; exact (iQ hb_) : w.heap.size ≤ gb111)); have n3_ := iC.mk ((by rw [hg]; exact (iQ hb_) : w.heap.size ≤ gb111)); clear HB; have HB := n0_; have BK111 := n1_; have GW111 := n2_; have GE111 := n3_; clear n0_ n1_ n2_ n3_; clear hb hbox hg; have hcz12_0 : w11.cell? ⟨gb111, 0, none⟩ = some (.int .u8 a0_0) := (iE BK111.out 0).trans rfl; have hcz12_1 : w11.cell? ⟨gb111, 1, none⟩ = some (.int .u32 a0_1) := (iE BK111.out 1).trans rfl; have hcz12_2 : w11.cell? ⟨gb111, 2, none⟩ = some (.int .u32 a0_2) := (iE BK111.out 2).trans rfl; have hcz12_3 : w11.cell? ⟨gb111, 3, none⟩ = some (.slice A0_3 l0_3.length c0_3) := (iE BK111.out 3).trans rfl; have hcz12_4 : w11.cell? ⟨gb111, 4, none⟩ = some (.slice A0_4 l0_4.length c0_4) := (iE BK111.out 4).trans rfl; have hcz12_5 : w11.cell? ⟨gb111, 5, none⟩ = some (.int .u32 a0_5) := (iE BK111.out 5).trans rfl; have hcz12_6 : w11.cell? ⟨gb111, 6, none⟩ = some (.slice A0_6 l0_6.length c0_6) := (iE BK111.out 6).trans rfl; have hcz12_7 : w11.cell? ⟨gb111, 7, none⟩ = some (.int .i64 a0_7) := (iE BK111.out 7).trans rfl; have hcz12_8 : w11.cell? ⟨gb111, 8, none⟩ = some (.int .i64 a0_8) := (iE BK111.out 8).trans rfl; have hcz12_9 : w11.cell? ⟨gb111, 9, none⟩ = some (.slice A0_9 l0_9.length c0_9) := (iE BK111.out 9).trans rfl; have hfz12_0 := iD BK111.out 0; have hfz12_1 := iD BK111.out 1; have hfz12_2 := iD BK111.out 2; have hfz12_3 := iD BK111.out 3; have hfz12_4 := iD BK111.out 4; have hfz12_5 := iD BK111.out 5; have hfz12_6 := iD BK111.out 6; have hfz12_7 := iD BK111.out 7; have hfz12_8 := iD BK111.out 8; have hfz12_9 := iD BK111.out 9))
          go_ret
          exact ⟨by first | rfl | (simp [iW, iV] <;> rfl) | (simp [*, iW, iV] <;> rfl), by repeat (first | (with_reducible first | exact HB.out | apply iG | apply iF | apply iJ | refine iH ?_ GE111.out) | exact HB.out)⟩
         ·rw [if_neg c10] at H
          have c10b0 : (a0_8 == 0) = false := beq_eq_false_iff_ne.mpr c10
          have c10b1 : (a0_8 != 0) = true := bne_iff_ne.mpr c10
          obtain rfl := Option.some.inj H
          go_enter Tryd.func67, Tryd.ntmps67
          go_wp2_with (first | ((with_reducible refine jY (N := 1) rfl ?_); (try (refine kJ (by rfl) ?_; dsimp only)); refine jQ ?hg (N := 1) ?hd (cs := #[.int .u8 a0_0, .int .u32 a0_1, .int .u32 a0_2, .slice A0_3 l0_3.length c0_3, .slice A0_4 l0_4.length c0_4, .int .u32 a0_5, .slice A0_6 l0_6.length c0_6, .int .i64 a0_7, .int .i64 a0_8, .slice A0_9 l0_9.length c0_9]) (t := 30) ?hr ?_; (case hd => rfl); (case hg => rfl); (case hr => first | (go_simp; done) | (go_simp; rfl)); intro gb111 hg w13 hbox hb; have n0_ := iC.mk (iK hb_ hb); have n1_ := iC.mk (hbox); have n2_ := iC.mk ((by rw [hg]; exact (iQ hb_) : w.heap.size ≤ gb111)); have n3_ := iC.mk ((by rw [hg]; exact (iQ hb_) : w.heap.size ≤ gb111)); clear HB; have HB := n0_; have BK111 := n1_; have GW111 := n2_; have GE111 := n3_; clear n0_ n1_ n2_ n3_; clear hb hbox hg; have hcz14_0 : w13.cell? ⟨gb111, 0, none⟩ = some (.int .u8 a0_0) := (iE BK111.out 0).trans rfl; have hcz14_1 : w13.cell? ⟨gb111, 1, none⟩ = some (.int .u32 a0_1) := (iE BK111.out 1).trans rfl; have hcz14_2 : w13.cell? ⟨gb111, 2, none⟩ = some (.int .u32 a0_2) := (iE BK111.out 2).trans rfl; have hcz14_3 : w13.cell? ⟨gb111, 3, none⟩ = some (.slice A0_3 l0_3.length c0_3) := (iE BK111.out 3).trans rfl; have hcz14_4 : w13.cell? ⟨gb111, 4, none⟩ = some (.slice A0_4 l0_4.length c0_4) := (iE BK111.out 4).trans rfl; have hcz14_5 : w13.cell? ⟨gb111, 5, none⟩ = some (.int .u32 a0_5) := (iE BK111.out 5).trans rfl; have hcz14_6 : w13.cell? ⟨gb111, 6, none⟩ = some (.slice A0_6 l0_6.length c0_6) := (iE BK111.out 6).trans rfl; have hcz14_7 : w13.cell? ⟨gb111, 7, none⟩ = some (.int .i64 a0_7) := (iE BK111.out 7).trans rfl; have hcz14_8 : w13.cell? ⟨gb111, 8, none⟩ = some (.int .i64 a0_8) := (iE BK111.out 8).trans rfl; have hcz14_9 : w13.cell? ⟨gb111, 9, none⟩ = some (.slice A0_9 l0_9.length c0_9) := (iE BK111.out 9).trans rfl; have hfz14_0 := iD BK111.out 0; have hfz14_1 := iD BK111.out 1; have hfz14_2 := iD BK111.out 2; have hfz14_3 := iD BK111.out 3; have hfz14_4 := iD BK111.out 4; have hfz14_5 := iD BK111.out 5; have hfz14_6 := iD BK111.out 6; have hfz14_7 := iD BK111.out 7; have hfz14_8 := iD BK111.out 8; have hfz14_9 := iD BK111.out 9))
          go_ret
          exact ⟨by first | rfl | (simp [iW, iV] <;> rfl) | (simp [*, iW, iV] <;> rfl), by repeat (first | (with_reducible first | exact HB.out | apply iG | apply iF | apply iJ | refine iH ?_ GE111.out) | exact HB.out)⟩
        ·rw [if_neg c9] at H
         have c9b0 : (a0_7 == 0) = false := beq_eq_false_iff_ne.mpr c9
         have c9b1 : (a0_7 != 0) = true := bne_iff_ne.mpr c9
         obtain rfl := Option.some.inj H
         go_enter Tryd.func67, Tryd.ntmps67
         go_wp2_with (first | ((with_reducible refine jY (N := 1) rfl ?_); (try (refine kJ (by rfl) ?_; dsimp only)); refine jQ ?hg (N := 1) ?hd (cs := #[.int .u8 a0_0, .int .u32 a0_1, .int .u32 a0_2, .slice A0_3 l0_3.length c0_3, .slice A0_4 l0_4.length c0_4, .int .u32 a0_5, .slice A0_6 l0_6.length c0_6, .int .i64 a0_7, .int .i64 a0_8, .slice A0_9 l0_9.length c0_9]) (t := 30) ?hr ?_; (case hd => rfl); (case hg => rfl); (case hr => first | (go_simp; done) | (go_simp; rfl)); intro gb111 hg w15 hbox hb; have n0_ := iC.mk (iK hb_ hb); have n1_ := iC.mk (hbox); have n2_ := iC.mk ((by rw [hg]; exact (iQ hb_) : w.heap.size ≤ gb111)); have n3_ := iC.mk ((by rw [hg]; exact (iQ hb_) : w.heap.size ≤ gb111)); clear HB; have HB := n0_; have BK111 := n1_; have GW111 := n2_; have GE111 := n3_; clear n0_ n1_ n2_ n3_; clear hb hbox hg; have hcz16_0 : w15.cell? ⟨gb111, 0, none⟩ = some (.int .u8 a0_0) := (iE BK111.out 0).trans rfl; have hcz16_1 : w15.cell? ⟨gb111, 1, none⟩ = some (.int .u32 a0_1) := (iE BK111.out 1).trans rfl; have hcz16_2 : w15.cell? ⟨gb111, 2, none⟩ = some (.int .u32 a0_2) := (iE BK111.out 2).trans rfl; have hcz16_3 : w15.cell? ⟨gb111, 3, none⟩ = some (.slice A0_3 l0_3.length c0_3) := (iE BK111.out 3).trans rfl; have hcz16_4 : w15.cell? ⟨gb111, 4, none⟩ = some (.slice A0_4 l0_4.length c0_4) := (iE BK111.out 4).trans rfl; have hcz16_5 : w15.cell? ⟨gb111, 5, none⟩ = some (.int .u32 a0_5) := (iE BK111.out 5).trans rfl; have hcz16_6 : w15.cell? ⟨gb111, 6, none⟩ = some (.slice A0_6 l0_6.length c0_6) := (iE BK111.out 6).trans rfl; have hcz16_7 : w15.cell? ⟨gb111, 7, none⟩ = some (.int .i64 a0_7) := (iE BK111.out 7).trans rfl; have hcz16_8 : w15.cell? ⟨gb111, 8, none⟩ = some (.int .i64 a0_8) := (iE BK111.out 8).trans rfl; have hcz16_9 : w15.cell? ⟨gb111, 9, none⟩ = some (.slice A0_9 l0_9.length c0_9) := (iE BK111.out 9).trans rfl; have hfz16_0 := iD BK111.out 0; have hfz16_1 := iD BK111.out 1; have hfz16_2 := iD BK111.out 2; have hfz16_3 := iD BK111.out 3; have hfz16_4 := iD BK111.out 4; have hfz16_5 := iD BK111.out 5; have hfz16_6 := iD BK111.out 6; have hfz16_7 := iD BK111.out 7; have hfz16_8 := iD BK111.out 8; have hfz16_9 := iD BK111.out 9))
         go_ret
         exact ⟨by first | rfl | (simp [iW, iV] <;> rfl) | (simp [*, iW, iV] <;> rfl), by repeat (first | (with_reducible first | exact HB.out | apply iG | apply iF | apply iJ | refine iH ?_ GE111.out) | exact HB.out)⟩
       ·rw [if_neg c8] at H
        have c8b0 : ((l0_6.length : Int) == 0) = false := beq_eq_false_iff_ne.mpr c8
        have c8b1 : ((l0_6.length : Int) != 0) = true := bne_iff_ne.mpr c8
        have c8b2 : ¬ (l0_6 = []) := fun h_ => c8 (by rw [h_]; rfl)
        obtain rfl := Option.some.inj H
        go_enter Tryd.func67, Tryd.ntmps67
        go_wp2_with (first | ((with_reducible refine jY (N := 1) rfl ?_); (try (refine kJ (by rfl) ?_; dsimp only)); refine jQ ?hg (N := 1) ?hd (cs := #[.int .u8 a0_0, .int .u32 a0_1, .int .u32 a0_2, .slice A0_3 l0_3.length c0_3, .slice A0_4 l0_4.length c0_4, .int .u32 a0_5, .slice A0_6 l0_6.length c0_6, .int .i64 a0_7, .int .i64 a0_8, .slice A0_9 l0_9.length c0_9]) (t := 30) ?hr ?_; (case hd => rfl); (case hg => rfl); (case hr => first | (go_simp; done) | (go_simp; rfl)); intro gb111 hg w17 hbox hb; have n0_ := iC.mk (iK hb_ hb); have n1_ := iC.mk (hbox); have n2_ := iC.mk ((by rw [hg]; exact (iQ hb_) : w.heap.size ≤ gb111)); have n3_ := iC.mk ((by rw [hg]; exact (iQ hb_) : w.heap.size ≤ gb111)); clear HB; have HB := n0_; have BK111 := n1_; have GW111 := n2_; have GE111 := n3_; clear n0_ n1_ n2_ n3_; clear hb hbox hg; have hcz18_0 : w17.cell? ⟨gb111, 0, none⟩ = some (.int .u8 a0_0) := (iE BK111.out 0).trans rfl; have hcz18_1 : w17.cell? ⟨gb111, 1, none⟩ = some (.int .u32 a0_1) := (iE BK111.out 1).trans rfl; have hcz18_2 : w17.cell? ⟨gb111, 2, none⟩ = some (.int .u32 a0_2) := (iE BK111.out 2).trans rfl; have hcz18_3 : w17.cell? ⟨gb111, 3, none⟩ = some (.slice A0_3 l0_3.length c0_3) := (iE BK111.out 3).trans rfl; have hcz18_4 : w17.cell? ⟨gb111, 4, none⟩ = some (.slice A0_4 l0_4.length c0_4) := (iE BK111.out 4).trans rfl; have hcz18_5 : w17.cell? ⟨gb111, 5, none⟩ = some (.int .u32 a0_5) := (iE BK111.out 5).trans rfl; have hcz18_6 : w17.cell? ⟨gb111, 6, none⟩ = some (.slice A0_6 l0_6.length c0_6) := (iE BK111.out 6).trans rfl; have hcz18_7 : w17.cell? ⟨gb111, 7, none⟩ = some (.int .i64 a0_7) := (iE BK111.out 7).trans rfl; have hcz18_8 : w17.cell? ⟨gb111, 8, none⟩ = some (.int .i64 a0_8) := (iE BK111.out 8).trans rfl; have hcz18_9 : w17.cell? ⟨gb111, 9, none⟩ = some (.slice A0_9 l0_9.length c0_9) := (iE BK111.out 9).trans rfl; have hfz18_0 := iD BK111.out 0; have hfz18_1 := iD BK111.out 1; have hfz18_2 := iD BK111.out 2; have hfz18_3 := iD BK111.out 3; have hfz18_4 := iD BK111.out 4; have hfz18_5 := iD BK111.out 5; have hfz18_6 := iD BK111.out 6; have hfz18_7 := iD BK111.out 7; have hfz18_8 := iD BK111.out 8; have hfz18_9 := iD BK111.out 9))
        go_ret
        exact ⟨by first | rfl | (simp [iW, iV] <;> rfl) | (simp [*, iW, iV] <;> rfl), by repeat (first | (with_reducible first | exact HB.out | apply iG | apply iF | apply iJ | refine iH ?_ GE111.out) | exact HB.out)⟩
      ·rw [if_neg c7] at H
       have c7b0 : (a0_5 == 0) = false := beq_eq_false_iff_ne.mpr c7
       have c7b1 : (a0_5 != 0) = true := bne_iff_ne.mpr c7
       obtain rfl := Option.some.inj H
       go_enter Tryd.func67, Tryd.ntmps67
       go_wp2_with (first | ((with_reducible refine jY (N := 1) rfl ?_); (try (refine kJ (by rfl) ?_; dsimp only)); refine jQ ?hg (N := 1) ?hd (cs := #[.int .u8 a0_0, .int .u32 a0_1, .int .u32 a0_2, .slice A0_3 l0_3.length c0_3, .slice A0_4 l0_4.length c0_4, .int .u32 a0_5, .slice A0_6 l0_6.length c0_6, .int .i64 a0_7, .int .i64 a0_8, .slice A0_9 l0_9.length c0_9]) (t := 30) ?hr ?_; (case hd => rfl); (case hg => rfl); (case hr => first | (go_simp; done) | (go_simp; rfl)); intro gb111 hg w19 hbox hb; have n0_ := iC.mk (iK hb_ hb); have n1_ := iC.mk (hbox); have n2_ := iC.mk ((by rw [hg]; exact (iQ hb_) : w.heap.size ≤ gb111)); have n3_ := iC.mk ((by rw [hg]; exact (iQ hb_) : w.heap.size ≤ gb111)); clear HB; have HB := n0_; have BK111 := n1_; have GW111 := n2_; have GE111 := n3_; clear n0_ n1_ n2_ n3_; clear hb hbox hg; have hcz20_0 : w19.cell? ⟨gb111, 0, none⟩ = some (.int .u8 a0_0) := (iE BK111.out 0).trans rfl; have hcz20_1 : w19.cell? ⟨gb111, 1, none⟩ = some (.int .u32 a0_1) := (iE BK111.out 1).trans rfl; have hcz20_2 : w19.cell? ⟨gb111, 2, none⟩ = some (.int .u32 a0_2) := (iE BK111.out 2).trans rfl; have hcz20_3 : w19.cell? ⟨gb111, 3, none⟩ = some (.slice A0_3 l0_3.length c0_3) := (iE BK111.out 3).trans rfl; have hcz20_4 : w19.cell? ⟨gb111, 4, none⟩ = some (.slice A0_4 l0_4.length c0_4) := (iE BK111.out 4).trans rfl; have hcz20_5 : w19.cell? ⟨gb111, 5, none⟩ = some (.int .u32 a0_5) := (iE BK111.out 5).trans rfl; have hcz20_6 : w19.cell? ⟨gb111, 6, none⟩ = some (.slice A0_6 l0_6.length c0_6) := (iE BK111.out 6).trans rfl; have hcz20_7 : w19.cell? ⟨gb111, 7, none⟩ = some (.int .i64 a0_7) := (iE BK111.out 7).trans rfl; have hcz20_8 : w19.cell? ⟨gb111, 8, none⟩ = some (.int .i64 a0_8) := (iE BK111.out 8).trans rfl; have hcz20_9 : w19.cell? ⟨gb111, 9, none⟩ = some (.slice A0_9 l0_9.length c0_9) := (iE BK111.out 9).trans rfl; have hfz20_0 := iD BK111.out 0; have hfz20_1 := iD BK111.out 1; have hfz20_2 := iD BK111.out 2; have hfz20_3 := iD BK111.out 3; have hfz20_4 := iD BK111.out 4; have hfz20_5 := iD BK111.out 5; have hfz20_6 := iD BK111.out 6; have hfz20_7 := iD BK111.out 7; have hfz20_8 := iD BK111.out 8; have hfz20_9 := iD BK111.out 9))
       go_ret
       exact ⟨by first | rfl | (simp [iW, iV] <;> rfl) | (simp [*, iW, iV] <;> rfl), by repeat (first | (with_reducible first | exact HB.out | apply iG | apply iF | apply iJ | refine iH ?_ GE111.out) | exact HB.out)⟩
     ·rw [if_neg c6] at H
      have c6b0 : ((l0_4.length : Int) == 0) = false := beq_eq_false_iff_ne.mpr c6
      have c6b1 : ((l0_4.length : Int) != 0) = true := bne_iff_ne.mpr c6
      have c6b2 : ¬ (l0_4 = []) := fun h_ => c6 (by rw [h_]; rfl)
      obtain rfl := Option.some.inj H
      go_enter Tryd.func67, Tryd.ntmps67
      go_wp2_with (first | ((with_reducible refine jY (N := 1) rfl ?_); (try (refine kJ (by rfl) ?_; dsimp only)); refine jQ ?hg (N := 1) ?hd (cs := #[.int .u8 a0_0, .int .u32 a0_1, .int .u32 a0_2, .slice A0_3 l0_3.length c0_3, .slice A0_4 l0_4.length c0_4, .int .u32 a0_5, .slice A0_6 l0_6.length c0_6, .int .i64 a0_7, .int .i64 a0_8, .slice A0_9 l0_9.length c0_9]) (t := 30) ?hr ?_; (case hd => rfl); (case hg => rfl); (case hr => first | (go_simp; done) | (go_simp; rfl)); intro gb111 hg w21 hbox hb; have n0_ := iC.mk (iK hb_ hb); have n1_ := iC.mk (hbox); have n2_ := iC.mk ((by rw [hg]; exact (iQ hb_) : w.heap.size ≤ gb111)); have n3_ := iC.mk ((by rw [hg]; exact (iQ hb_) : w.heap.size ≤ gb111)); clear HB; have HB := n0_; have BK111 := n1_; have GW111 := n2_; have GE111 := n3_; clear n0_ n1_ n2_ n3_; clear hb hbox hg; have hcz22_0 : w21.cell? ⟨gb111, 0, none⟩ = some (.int .u8 a0_0) := (iE BK111.out 0).trans rfl; have hcz22_1 : w21.cell? ⟨gb111, 1, none⟩ = some (.int .u32 a0_1) := (iE BK111.out 1).trans rfl; have hcz22_2 : w21.cell? ⟨gb111, 2, none⟩ = some (.int .u32 a0_2) := (iE BK111.out 2).trans rfl; have hcz22_3 : w21.cell? ⟨gb111, 3, none⟩ = some (.slice A0_3 l0_3.length c0_3) := (iE BK111.out 3).trans rfl; have hcz22_4 : w21.cell? ⟨gb111, 4, none⟩ = some (.slice A0_4 l0_4.length c0_4) := (iE BK111.out 4).trans rfl; have hcz22_5 : w21.cell? ⟨gb111, 5, none⟩ = some (.int .u32 a0_5) := (iE BK111.out 5).trans rfl; have hcz22_6 : w21.cell? ⟨gb111, 6, none⟩ = some (.slice A0_6 l0_6.length c0_6) := (iE BK111.out 6).trans rfl; have hcz22_7 : w21.cell? ⟨gb111, 7, none⟩ = some (.int .i64 a0_7) := (iE BK111.out 7).trans rfl; have hcz22_8 : w21.cell? ⟨gb111, 8, none⟩ = some (.int .i64 a0_8) := (iE BK111.out 8).trans rfl; have hcz22_9 : w21.cell? ⟨gb111, 9, none⟩ = some (.slice A0_9 l0_9.length c0_9) := (iE BK111.out 9).trans rfl; have hfz22_0 := iD BK111.out 0; have hfz22_1 := iD BK111.out 1; have hfz22_2 := iD BK111.out 2; have hfz22_3 := iD BK111.out 3; have hfz22_4 := iD BK111.out 4; have hfz22_5 := iD BK111.out 5; have hfz22_6 := iD BK111.out 6; have hfz22_7 := iD BK111.out 7; have hfz22_8 := iD BK111.out 8; have hfz22_9 := iD BK111.out 9))
      go_ret
      exact ⟨by first | rfl | (simp [iW, iV] <;> rfl) | (simp [*, iW, iV] <;> rfl), by repeat (first | (with_reducible first | exact HB.out | apply iG | apply iF | apply iJ | refine iH ?_ GE111.out) | exact HB.out)⟩
    ·rw [if_neg c5] at H
     have c5b0 : ((l0_3.length : Int) == 0) = false := beq_eq_false_iff_ne.mpr c5
     have c5b1 : ((l0_3.length : Int) != 0) = true := bne_iff_ne.mpr c5
     have c5b2 : ¬ (l0_3 = []) := fun h_ => c5 (by rw [h_]; rfl)
     obtain rfl := Option.some.inj H
     go_enter Tryd.func67, Tryd.ntmps67
     go_wp2_with (first | ((with_reducible refine jY (N := 1) rfl ?_); (try (refine kJ (by rfl) ?_; dsimp only)); refine jQ ?hg (N := 1) ?hd (cs := #[.int .u8 a0_0, .int .u32 a0_1, .int .u32 a0_2, .slice A0_3 l0_3.length c0_3, .slice A0_4 l0_4.length c0_4, .int .u32 a0_5, .slice A0_6 l0_6.length c0_6, .int .i64 a0_7, .int .i64 a0_8, .slice A0_9 l0_9.length c0_9]) (t := 30) ?hr ?_; (case hd => rfl); (case hg => rfl); (case hr => first | (go_simp; done) | (go_simp; rfl)); intro gb111 hg w23 hbox hb; have n0_ := iC.mk (iK hb_ hb); have n1_ := iC.mk (hbox); have n2_ := iC.mk ((by rw [hg]; exact (iQ hb_) : w.heap.size ≤ gb111)); have n3_ := iC.mk ((by rw [hg]; exact (iQ hb_) : w.heap.size ≤ gb111)); clear HB; have HB := n0_; have BK111 := n1_; have GW111 := n2_; have GE111 := n3_; clear n0_ n1_ n2_ n3_; clear hb hbox hg; have hcz24_0 : w23.cell? ⟨gb111, 0, none⟩ = some (.int .u8 a0_0) := (iE BK111.out 0).trans rfl; have hcz24_1 : w23.cell? ⟨gb111, 1, none⟩ = some (.int .u32 a0_1) := (iE BK111.out 1).trans rfl; have hcz24_2 : w23.cell? ⟨gb111, 2, none⟩ = some (.int .u32 a0_2) := (iE BK111.out 2).trans rfl; have hcz24_3 : w23.cell? ⟨gb111, 3, none⟩ = some (.slice A0_3 l0_3.length c0_3) := (iE BK111.out 3).trans rfl; have hcz24_4 : w23.cell? ⟨gb111, 4, none⟩ = some (.slice A0_4 l0_4.length c0_4) := (iE BK111.out 4).trans rfl; have hcz24_5 : w23.cell? ⟨gb111, 5, none⟩ = some (.int .u32 a0_5) := (iE BK111.out 5).trans rfl; have hcz24_6 : w23.cell? ⟨gb111, 6, none⟩ = some (.slice A0_6 l0_6.length c0_6) := (iE BK111.out 6).trans rfl; have hcz24_7 : w23.cell? ⟨gb111, 7, none⟩ = some (.int .i64 a0_7) := (iE BK111.out 7).trans rfl; have hcz24_8 : w23.cell? ⟨gb111, 8, none⟩ = some (.int .i64 a0_8) := (iE BK111.out 8).trans rfl; have hcz24_9 : w23.cell? ⟨gb111, 9, none⟩ = some (.slice A0_9 l0_9.length c0_9) := (iE BK111.out 9).trans rfl; have hfz24_0 := iD BK111.out 0; have hfz24_1 := iD BK111.out 1; have hfz24_2 := iD BK111.out 2; have hfz24_3 := iD BK111.out 3; have hfz24_4 := iD BK111.out 4; have hfz24_5 := iD BK111.out 5; have hfz24_6 := iD BK111.out 6; have hfz24_7 := iD BK111.out 7; have hfz24_8 := iD BK111.out 8; have hfz24_9 := iD BK111.out 9))
     go_ret
     exact ⟨by first | rfl | (simp [iW, iV] <;> rfl) | (simp [*, iW, iV] <;> rfl), by repeat (first | (with_reducible first | exact HB.out | apply iG | apply iF | apply iJ | refine iH ?_ GE111.out) | exact HB.out)⟩
   ·rw [if_neg c4] at H
    have c4b0 : (a0_2 == 0) = false := beq_eq_false_iff_ne.mpr c4
    have c4b1 : (a0_2 != 0) = true := bne_iff_ne.mpr c4
    obtain rfl := Option.some.inj H
    go_enter Tryd.func67, Tryd.ntmps67
    go_wp2_with (first | ((with_reducible refine jY (N := 1) rfl ?_); (try (refine kJ (by rfl) ?_; dsimp only)); refine jQ ?hg (N := 1) ?hd (cs := #[.int .u8 a0_0, .int .u32 a0_1, .int .u32 a0_2, .slice A0_3 l0_3.length c0_3, .slice A0_4 l0_4.length c0_4, .int .u32 a0_5, .slice A0_6 l0_6.length c0_6, .int .i64 a0_7, .int .i64 a0_8, .slice A0_9 l0_9.length c0_9]) (t := 30) ?hr ?_; (case hd => rfl); (case hg => rfl); (case hr => first | (go_simp; done) | (go_simp; rfl)); intro gb111 hg w25 hbox hb; have n0_ := iC.mk (iK hb_ hb); have n1_ := iC.mk (hbox); have n2_ := iC.mk ((by rw [hg]; exact (iQ hb_) : w.heap.size ≤ gb111)); have n3_ := iC.mk ((by rw [hg]; exact (iQ hb_) : w.heap.size ≤ gb111)); clear HB; have HB := n0_; have BK111 := n1_; have GW111 := n2_; have GE111 := n3_; clear n0_ n1_ n2_ n3_; clear hb hbox hg; have hcz26_0 : w25.cell? ⟨gb111, 0, none⟩ = some (.int .u8 a0_0) := (iE BK111.out 0).trans rfl; have hcz26_1 : w25.cell? ⟨gb111, 1, none⟩ = some (.int .u32 a0_1) := (iE BK111.out 1).trans rfl; have hcz26_2 : w25.cell? ⟨gb111, 2, none⟩ = some (.int .u32 a0_2) := (iE BK111.out 2).trans rfl; have hcz26_3 : w25.cell? ⟨gb111, 3, none⟩ = some (.slice A0_3 l0_3.length c0_3) := (iE BK111.out 3).trans rfl; have hcz26_4 : w25.cell? ⟨gb111, 4, none⟩ = some (.slice A0_4 l0_4.length c0_4) := (iE BK111.out 4).trans rfl; have hcz26_5 : w25.cell? ⟨gb111, 5, none⟩ = some (.int .u32 a0_5) := (iE BK111.out 5).trans rfl; have hcz26_6 : w25.cell? ⟨gb111, 6, none⟩ = some (.slice A0_6 l0_6.length c0_6) := (iE BK111.out 6).trans rfl; have hcz26_7 : w25.cell? ⟨gb111, 7, none⟩ = some (.int .i64 a0_7) := (iE BK111.out 7).trans rfl; have hcz26_8 : w25.cell? ⟨gb111, 8, none⟩ = some (.int .i64 a0_8) := (iE BK111.out 8).trans rfl; have hcz26_9 : w25.cell? ⟨gb111, 9, none⟩ = some (.slice A0_9 l0_9.length c0_9) := (iE BK111.out 9).trans rfl; have hfz26_0 := iD BK111.out 0; have hfz26_1 := iD BK111.out 1; have hfz26_2 := iD BK111.out 2; have hfz26_3 := iD BK111.out 3; have hfz26_4 := iD BK111.out 4; have hfz26_5 := iD BK111.out 5; have hfz26_6 := iD BK111.out 6; have hfz26_7 := iD BK111.out 7; have hfz26_8 := iD BK111.out 8; have hfz26_9 := iD BK111.out 9))
    go_ret
    exact ⟨by first | rfl | (simp [iW, iV] <;> rfl) | (simp [*, iW, iV] <;> rfl), by repeat (first | (with_reducible first | exact HB.out | apply iG | apply iF | apply iJ | refine iH ?_ GE111.out) | exact HB.out)⟩
  ·rw [if_neg c3] at H
   have c3b0 : (a0_1 == 0) = false := beq_eq_false_iff_ne.mpr c3
   have c3b1 : (a0_1 != 0) = true := bne_iff_ne.mpr c3
   obtain rfl := Option.some.inj H
   go_enter Tryd.func67, Tryd.ntmps67
   go_wp2_with (first | ((with_reducible refine jY (N := 1) rfl ?_); (try (refine kJ (by rfl) ?_; dsimp only)); refine jQ ?hg (N := 1) ?hd (cs := #[.int .u8 a0_0, .int .u32 a0_1, .int .u32 a0_2, .slice A0_3 l0_3.length c0_3, .slice A0_4 l0_4.length c0_4, .int .u32 a0_5, .slice A0_6 l0_6.length c0_6, .int .i64 a0_7, .int .i64 a0_8, .slice A0_9 l0_9.length c0_9]) (t := 30) ?hr ?_; (case hd => rfl); (case hg => rfl); (case hr => first | (go_simp; done) | (go_simp; rfl)); intro gb111 hg w27 hbox hb; have n0_ := iC.mk (iK hb_ hb); have n1_ := iC.mk (hbox); have n2_ := iC.mk ((by rw [hg]; exact (iQ hb_) : w.heap.size ≤ gb111)); have n3_ := iC.mk ((by rw [hg]; exact (iQ hb_) : w.heap.size ≤ gb111)); clear HB; have HB := n0_; have BK111 := n1_; have GW111 := n2_; have GE111 := n3_; clear n0_ n1_ n2_ n3_; clear hb hbox hg; have hcz28_0 : w27.cell? ⟨gb111, 0, none⟩ = some (.int .u8 a0_0) := (iE BK111.out 0).trans rfl; have hcz28_1 : w27.cell? ⟨gb111, 1, none⟩ = some (.int .u32 a0_1) := (iE BK111.out 1).trans rfl; have hcz28_2 : w27.cell? ⟨gb111, 2, none⟩ = some (.int .u32 a0_2) := (iE BK111.out 2).trans rfl; have hcz28_3 : w27.cell? ⟨gb111, 3, none⟩ = some (.slice A0_3 l0_3.length c0_3) := (iE BK111.out 3).trans rfl; have hcz28_4 : w27.cell? ⟨gb111, 4, none⟩ = some (.slice A0_4 l0_4.length c0_4) := (iE BK111.out 4).trans rfl; have hcz28_5 : w27.cell? ⟨gb111, 5, none⟩ = some (.int .u32 a0_5) := (iE BK111.out 5).trans rfl; have hcz28_6 : w27.cell? ⟨gb111, 6, none⟩ = some (.slice A0_6 l0_6.length c0_6) := (iE BK111.out 6).trans rfl; have hcz28_7 : w27.cell? ⟨gb111, 7, none⟩ = some (.int .i64 a0_7) := (iE BK111.out 7).trans rfl; have hcz28_8 : w27.cell? ⟨gb111, 8, none⟩ = some (.int .i64 a0_8) := (iE BK111.out 8).trans rfl; have hcz28_9 : w27.cell? ⟨gb111, 9, none⟩ = some (.slice A0_9 l0_9.length c0_9) := (iE BK111.out 9).trans rfl; have hfz28_0 := iD BK111.out 0; have hfz28_1 := iD BK111.out 1; have hfz28_2 := iD BK111.out 2; have hfz28_3 := iD BK111.out 3; have hfz28_4 := iD BK111.out 4; have hfz28_5 := iD BK111.out 5; have hfz28_6 := iD BK111.out 6; have hfz28_7 := iD BK111.out 7; have hfz28_8 := iD BK111.out 8; have hfz28_9 := iD BK111.out 9))
   go_ret
   exact ⟨by first | rfl | (simp [iW, iV] <;> rfl) | (simp [*, iW, iV] <;> rfl), by repeat (first | (with_reducible first | exact HB.out | apply iG | apply iF | apply iJ | refine iH ?_ GE111.out) | exact HB.out)⟩
 ·rw [if_neg c2] at H
  have c2b0 : (a0_0 == 0) = false := beq_eq_false_iff_ne.mpr c2
  have c2b1 : (a0_0 != 0) = true := bne_iff_ne.mpr c2
  obtain rfl := Option.some.inj H
  go_enter Tryd.func67, Tryd.ntmps67
  go_wp2_with (first | ((with_reducible refine jY (N := 1) rfl ?_); (try (refine kJ (by rfl) ?_; dsimp only)); refine jQ ?hg (N := 1) ?hd (cs := #[.int .u8 a0_0, .int .u32 a0_1, .int .u32 a0_2, .slice A0_3 l0_3.length c0_3, .slice A0_4 l0_4.length c0_4, .int .u32 a0_5, .slice A0_6 l0_6.length c0_6, .int .i64 a0_7, .int .i64 a0_8, .slice A0_9 l0_9.length c0_9]) (t := 30) ?hr ?_; (case hd => rfl); (case hg => rfl); (case hr => first | (go_simp; done) | (go_simp; rfl)); intro gb111 hg w29 hbox hb; have n0_ := iC.mk (iK hb_ hb); have n1_ := iC.mk (hbox); have n2_ := iC.mk ((by rw [hg]; exact (iQ hb_) : w.heap.size ≤ gb111)); have n3_ := iC.mk ((by rw [hg]; exact (iQ hb_) : w.heap.size ≤ gb111)); clear HB; have HB := n0_; have BK111 := n1_; have GW111 := n2_; have GE111 := n3_; clear n0_ n1_ n2_ n3_; clear hb hbox hg; have hcz30_0 : w29.cell? ⟨gb111, 0, none⟩ = some (.int .u8 a0_0) := (iE BK111.out 0).trans rfl; have hcz30_1 : w29.cell? ⟨gb111, 1, none⟩ = some (.int .u32 a0_1) := (iE BK111.out 1).trans rfl; have hcz30_2 : w29.cell? ⟨gb111, 2, none⟩ = some (.int .u32 a0_2) := (iE BK111.out 2).trans rfl; have hcz30_3 : w29.cell? ⟨gb111, 3, none⟩ = some (.slice A0_3 l0_3.length c0_3) := (iE BK111.out 3).trans rfl; have hcz30_4 : w29.cell? ⟨gb111, 4, none⟩ = some (.slice A0_4 l0_4.length c0_4) := (iE BK111.out 4).trans rfl; have hcz30_5 : w29.cell? ⟨gb111, 5, none⟩ = some (.int .u32 a0_5) := (iE BK111.out 5).trans rfl; have hcz30_6 : w29.cell? ⟨gb111, 6, none⟩ = some (.slice A0_6 l0_6.length c0_6) := (iE BK111.out 6).trans rfl; have hcz30_7 : w29.cell? ⟨gb111, 7, none⟩ = some (.int .i64 a0_7) := (iE BK111.out 7).trans rfl; have hcz30_8 : w29.cell? ⟨gb111, 8, none⟩ = some (.int .i64 a0_8) := (iE BK111.out 8).trans rfl; have hcz30_9 : w29.cell? ⟨gb111, 9, none⟩ = some (.slice A0_9 l0_9.length c0_9) := (iE BK111.out 9).trans rfl; have hfz30_0 := iD BK111.out 0; have hfz30_1 := iD BK111.out 1; have hfz30_2 := iD BK111.out 2; have hfz30_3 := iD BK111.out 3; have hfz30_4 := iD BK111.out 4; have hfz30_5 := iD BK111.out 5; have hfz30_6 := iD BK111.out 6; have hfz30_7 := iD BK111.out 7; have hfz30_8 := iD BK111.out 8; have hfz30_9 := iD BK111.out 9))
  go_ret
  exact ⟨by first | rfl | (simp [iW, iV] <;> rfl) | (simp [*, iW, iV] <;> rfl), by repeat (first | (with_reducible first | exact HB.out | apply iG | apply iF | apply iJ | refine iH ?_ GE111.out) | exact HB.out)⟩
end Go.Proofs.YtgfkgppomaapiaaDoor.K
end
