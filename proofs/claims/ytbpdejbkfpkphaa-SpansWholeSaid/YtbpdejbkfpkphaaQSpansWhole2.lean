/- Parts of the proof, one behind the other: Base, Row, K0, K28, K29, SpB, SpG, SpC, SpF, SpY, SpL, SpN. -/
import Derived.Test.YtbpdejbkfpkphaaQSpansWhole1
import Derived.Test.YtbpdejbkfpkphaaProg
import Derived.WalkSpells
import Derived.WalkLawsBesides
import Derived.RegionTactic
import Derived.ChangeAlike
import Derived.Lib.Hide
import Derived.Lib.SlBytesConst
import Derived.ProofKit
import Derived.OpenShut
import Derived.ShutString
import Derived.ChangeOld
import Derived.SizedLaws
import Derived.ChangeSlices
import Derived.RangeFuncNested
import Derived.RangeFuncBound
import Derived.RangeFuncCalls
import Derived.RangeFuncLeaves
import Derived.RangeFuncBox
import Derived.Shelf.Abstract
import Derived.Shelf.RegionOpen
import Derived.OwnWalkIn
import Derived.TacticsInMore
import Derived.LoopNIn
import Derived.LoopIn
import Derived.Lib.SliceRun
import Derived.Shelf.SlIterI.Nil
import Derived.Shelf.SortM.Plain
import Derived.Shelf.SortM.SortNone
import Derived.Ground.GgzProg
import Derived.Ground.SlgmProg
import Derived.Test.YtbpdejbkfpkphaaChecked
import Derived.Maps.OwnSet
import Derived.Maps.OwnOps
import Derived.Lib.SlKeysI
set_option linter.unusedVariables false
set_option linter.unusedSimpArgs false
section
namespace Go.Proofs.Ytbpdejbkfpkphaa.My
open Go Go.RowKit Go.Proofs.YtbpdejbkfpkphaaW.PrintWords
/-- A byte in a cell. -/
def kb : Kd UInt8 := Kd.scalar (fun b => Value.int .u8 (b.toNat : Int)) (fun _ => rfl)
/-- The cells of a slice of slices of bytes. -/
def Cs (W : World) (cs : List Value) (ls : List (List UInt8)) : Prop :=
  cs.length = ls.length ∧ ∀ (i : Nat) (l : List UInt8), ls[i]? = some l → ∃ A c, cs[i]? = some (.slice A l.length c) ∧ l.length ≤ c ∧ kb.C W A l.length l
theorem Cs.nil (W : World) : Cs W [] [] := ⟨rfl, fun i l h => by simp at h⟩
theorem Cs.cons {W : World} {cs : List Value} {ls : List (List UInt8)} {A : Option Addr} {c n : Nat} {l : List UInt8} (h : kb.C W A n l) (hc : n ≤ c) (hs : Cs W cs ls) : Cs W (.slice A n c :: cs) (l :: ls) := by
  have hn := h.1
  subst hn
  refine ⟨by simp [hs.1], fun i x hx => ?_⟩
  rcases i with _ | i
  · obtain rfl : l = x := by simpa using hx
    exact ⟨A, c, rfl, hc, h⟩
  · exact hs.2 i x (by simpa using hx)
theorem lM {W : World} {o : Obj} {b : Nat} (hb : b = W.heap.size) : (W.alloc o).heap[b]? = some o := by
  subst hb
  show (W.heap.push o)[W.heap.size]? = _
  simp
theorem mD {W : World} {o o' : Obj} {b : Nat} (h : W.heap[b]? = some o') : (W.alloc o).heap[b]? = some o' := by
  rw [Below.heap_alloc _ _ _ (jE h)]
  exact h
theorem mV {W W' : World} {o : Obj} {b : Nat} (hb : Below W.heap.size W W') (h : W.heap[b]? = some o) : W'.heap[b]? = some o := (hb.block b (jE h)).trans h
theorem below_bytesWorld {w W : World} (h : Below w.heap.size w W) (e : TypeId) (s : ByteArray) : Below w.heap.size w (Lib.bytesWorld W e s) := qH h h.size e s
/-- All blocks but one are as they were, and no block has come or gone. -/
structure Only (b : Nat) (w w' : World) : Prop where
  os : w'.os = w.os
  tape : w'.tape = w.tape
  output : w'.output = w.output
  size : w'.heap.size = w.heap.size
  block : ∀ k, k ≠ b → w'.heap[k]? = w.heap[k]?
theorem Only.refl (b : Nat) (w : World) : Only b w w := ⟨rfl, rfl, rfl, rfl, fun _ _ => rfl⟩
theorem Only.set {b : Nat} {w w' : World} (h : Only b w w') (o : Nat) (v : Value) : Only b w (w'.setCell ⟨b, o, none⟩ v) :=
  ⟨h.os, h.tape, h.output, by simp [World.setCell, h.size], fun k hk => by rw [Below.heap_setCell _ _ _ _ hk]; exact h.block k hk⟩
theorem Only.drew {b : Nat} {w w' : World} (h : Only b w w') : Only b w w'.drew := ⟨h.os, h.tape, h.output, h.size, h.block⟩
theorem Only.below {b B : Nat} {w0 w w' : World} (h : Only b w w') (hB : B ≤ b) (h0 : Below B w0 w) : Below B w0 w' :=
  ⟨h.os.trans h0.os, h.tape.trans h0.tape, h.output.trans h0.output, by rw [h.size]; exact h0.size, fun k hk => (h.block k (by omega)).trans (h0.block k hk)⟩
end Go.Proofs.Ytbpdejbkfpkphaa.My
end
section
namespace Go.Proofs.YtbpdejbkfpkphaaW.PrintMore
open Go Go.RowKit Go.Proofs.YtbpdejbkfpkphaaW.PrintWords Go.Proofs.YtbpdejbkfpkphaaW.PrintLast Go.Proofs.YtbpdejbkfpkphaaW.PrintMore
theorem bel_ {p : Prop} (h : p := by (with_reducible (repeat (first | exact Below.refl _ _ | apply iF | apply kD | apply iD | apply Go.Proofs.Ytbpdejbkfpkphaa.My.below_bytesWorld | (refine iE ?_ (by first | assumption | omega)) | refine iK ?_ (by assumption))))) : p := h
theorem hb_ {p : Prop} (h : p := by repeat (first | (with_reducible first | exact HB.out | apply iF | apply iD | apply iG) | exact HB.out)) : p := h
theorem asm_ {p : Prop} (h : p := by first | (with_reducible assumption) | assumption) : p := h
theorem bk_ {p q : Prop} (h : p) (f : p → q := by intro h; (with_reducible repeat (first | refine iM ?_ _ | refine iO ?_ | refine iL ?_ _)); exact h) : q := f h
end Go.Proofs.YtbpdejbkfpkphaaW.PrintMore
end

section
namespace Go.Proofs.Ytbpdejbkfpkphaa.My
open Go Go.RowKit Go.Proofs.YtbpdejbkfpkphaaW.PrintWords
theorem own : ownKnob Try.prog.godebug = none := by kernel_rfl
theorem laidOut : laidOutB Try.prog = true := by kernel_rfl
theorem wf_u8 {n : Int} (h : (Lit.int .u8 n).wf = true) : 0 ≤ n ∧ n < 256 := by
  have := bounds_u8 h
  omega
theorem wf_u16 {n : Int} (h : (Lit.int .u16 n).wf = true) : 0 ≤ n ∧ n < 65536 := by
  have := bounds_u16 h
  omega
end Go.Proofs.Ytbpdejbkfpkphaa.My
end

section
namespace Go.Proofs.Ytbpdejbkfpkphaa.K
open Go.RowKit Go.Proofs.YtbpdejbkfpkphaaW.PrintWords Go.Proofs.YtbpdejbkfpkphaaW.PrintLast Go.Proofs.YtbpdejbkfpkphaaW.PrintMore
attribute [local go_sem] jU jT jZ jY jO jP jW jV
def errW : Option Int → Value
  | none => .nilIface
  | some c => .iface 0 (.int .i64 c)
theorem iR : errW none = .nilIface := rfl
theorem iQ (c : Int) : errW (some c) = .iface 0 (.int .i64 c) := rfl
theorem mY : (Try.prog.info? 60).map (fun i => (i.zero, i.size, i.bytes)) = some (some (.agg #[(.int .i64 0), (.int .i64 0)]), 2, 16) := by kernel_rfl
theorem zG : (Try.prog.info? 77).map (fun i => (i.zero, i.size, i.bytes)) = some (some (.agg #[(.slice none 0 0), (.int .i64 0)]), 2, 32) := by kernel_rfl
structure S60 where
  f0 : Int
  f1 : Int
def z60 : S60 := ⟨(0 : Int), (0 : Int)⟩
def k60 : Kd S60 := Kd.iso (Kd.pair (Kd.int .i64) (Kd.int .i64)) (fun x : S60 => (x.f0, x.f1))
theorem vP {w : World} {x : S60} {cs : List Value} (h : k60.K w x cs) : cs = [.int .i64 x.f0, .int .i64 x.f1] := by
  obtain ⟨_, _, rfl, rfl, rfl⟩ := h
  exact rfl
theorem uV {w : World} {base : Nat} {ok : Nat → Prop} {x : S60} {cs : List Value} (h : k60.M w base ok x cs) : cs = [.int .i64 x.f0, .int .i64 x.f1] := by
  obtain ⟨_, _, rfl, rfl, rfl⟩ := h
  exact rfl
theorem kS (w : World) (base : Nat) (ok : Nat → Prop) (x : S60)  : k60.M w base ok x [.int .i64 x.f0, .int .i64 x.f1] := ⟨[.int .i64 x.f0], [.int .i64 x.f1], rfl, rfl, rfl⟩
def iT (xs : List S60) (i : Int) : S60 := xs.getD i.toNat z60
theorem jK {w : World} {A : Option Addr} {n : Nat} {xs : List S60} (h : Kd.C k60 w A n xs) (i : Int) (h0 : 0 ≤ i) (h1 : i < n) : ∃ ad , A = some ad ∧ w.cell? (ad.add (i.toNat * 2)) = some (.int .i64 (iT xs i).f0) ∧ w.cell? ⟨(ad.add (i.toNat * 2)).block, (ad.add (i.toNat * 2)).off + 1, none⟩ = some (.int .i64 (iT xs i).f1) := by
  obtain ⟨ad, c, e, _, hK, hc0⟩ := Kd.C_get h z60 i h0 h1
  have hc : ∀ j u, c[j]? = some u → w.cell? (ad.add (i.toNat * 2 + j)) = some u := hc0
  obtain rfl := vP hK
  exact ⟨ad, e, hc 0 _ rfl, by rw [← mF _ _ 1 (by omega)]; exact hc 1 _ rfl⟩
structure S77 where
  f0 : (List Int)
  f1 : Int
def z77 : S77 := ⟨([] : List Int), (0 : Int)⟩
def k77 : Kd S77 := Kd.iso (Kd.pair (Kd.slice 3 (Kd.int .i64)) (Kd.int .i64)) (fun x : S77 => (x.f0, x.f1))
theorem xP {w : World} {x : S77} {cs : List Value} (h : k77.K w x cs) : ∃ A0 c0, cs = [.slice A0 x.f0.length c0, .int .i64 x.f1] ∧ x.f0.length ≤ c0 ∧ (Kd.int .i64).C w A0 x.f0.length x.f0 := by
  obtain ⟨_, _, rfl, ⟨A0, c0, rfl, l0, g0⟩, rfl⟩ := h
  exact ⟨A0, c0, rfl, l0, g0⟩
theorem pK {w : World} {base : Nat} {ok : Nat → Prop} {x : S77} {cs : List Value} (h : k77.M w base ok x cs) : ∃ v0, cs = [v0, .int .i64 x.f1] ∧ (Kd.int .i64).R 3 w base ok v0 x.f0 := by
  obtain ⟨_, _, rfl, ⟨v0, rfl, g0⟩, rfl⟩ := h
  exact ⟨v0, rfl, g0⟩
theorem zY (w : World) (x : S77) {A0 : Option Addr} {c0 : Nat} (l0 : x.f0.length ≤ c0) (g0 : (Kd.int .i64).C w A0 x.f0.length x.f0) : k77.K w x [.slice A0 x.f0.length c0, .int .i64 x.f1] := ⟨[.slice A0 x.f0.length c0], [.int .i64 x.f1], rfl, ⟨A0, c0, rfl, l0, g0⟩, rfl⟩
theorem yT (w : World) (base : Nat) (ok : Nat → Prop) (x : S77) {v0 : Value} (g0 : (Kd.int .i64).R 3 w base ok v0 x.f0) : k77.M w base ok x [v0, .int .i64 x.f1] := ⟨[v0], [.int .i64 x.f1], rfl, ⟨v0, rfl, g0⟩, rfl⟩
theorem yV (W : World) (ok : Nat → Prop) (x : S77) {A0 : Option Addr} {c0 : Nat} (l0 : x.f0.length ≤ c0) (g0 : Kd.F (Kd.int .i64) W ok A0 x.f0.length x.f0) : Kd.FK k77 W ok x [.slice A0 x.f0.length c0, .int .i64 x.f1] := fun W2 hW => zY W2 x l0 (g0 W2 hW)
def iV (xs : List S77) (i : Int) : S77 := xs.getD i.toNat z77
theorem kR {w : World} {A : Option Addr} {n : Nat} {xs : List S77} (h : Kd.C k77 w A n xs) (i : Int) (h0 : 0 ≤ i) (h1 : i < n) : ∃ ad A0 c0, A = some ad ∧ w.cell? (ad.add (i.toNat * 2)) = some (.slice A0 (iV xs i).f0.length c0) ∧ w.cell? ⟨(ad.add (i.toNat * 2)).block, (ad.add (i.toNat * 2)).off + 1, none⟩ = some (.int .i64 (iV xs i).f1) ∧ (iV xs i).f0.length ≤ c0 ∧ (Kd.int .i64).C w A0 (iV xs i).f0.length (iV xs i).f0 := by
  obtain ⟨ad, c, e, _, hK, hc0⟩ := Kd.C_get h z77 i h0 h1
  have hc : ∀ j u, c[j]? = some u → w.cell? (ad.add (i.toNat * 2 + j)) = some u := hc0
  obtain ⟨A0, c0, rfl, l0, g0⟩ := xP hK
  exact ⟨ad, A0, c0, e, hc 0 _ rfl, by rw [← mF _ _ 1 (by omega)]; exact hc 1 _ rfl, l0, g0⟩
structure S55 where
  f0 : Int
  f1 : Int
  f2 : Int
def z55 : S55 := ⟨(0 : Int), (0 : Int), (0 : Int)⟩
def k55 : Kd S55 := Kd.iso (Kd.pair (Kd.int .u16) (Kd.pair (Kd.int .u16) (Kd.int .u8))) (fun x : S55 => (x.f0, x.f1, x.f2))
theorem xQ {w : World} {x : S55} {cs : List Value} (h : k55.K w x cs) : cs = [.int .u16 x.f0, .int .u16 x.f1, .int .u8 x.f2] := by
  obtain ⟨_, _, rfl, rfl, ⟨_, _, rfl, rfl, rfl⟩⟩ := h
  exact rfl
def jF (xs : List S55) (i : Int) : S55 := xs.getD i.toNat z55
theorem o8 {w : World} {A : Option Addr} {n : Nat} {xs : List S55} (h : Kd.C k55 w A n xs) (i : Int) (h0 : 0 ≤ i) (h1 : i < n) : ∃ ad , A = some ad ∧ w.cell? (ad.add (i.toNat * 3)) = some (.int .u16 (jF xs i).f0) ∧ w.cell? ⟨(ad.add (i.toNat * 3)).block, (ad.add (i.toNat * 3)).off + 1, none⟩ = some (.int .u16 (jF xs i).f1) ∧ w.cell? ⟨(ad.add (i.toNat * 3)).block, (ad.add (i.toNat * 3)).off + 2, none⟩ = some (.int .u8 (jF xs i).f2) := by
  obtain ⟨ad, c, e, _, hK, hc0⟩ := Kd.C_get h z55 i h0 h1
  have hc : ∀ j u, c[j]? = some u → w.cell? (ad.add (i.toNat * 3 + j)) = some u := hc0
  obtain rfl := xQ hK
  exact ⟨ad, e, hc 0 _ rfl, by rw [← mF _ _ 1 (by omega)]; exact hc 1 _ rfl, by rw [← mF _ _ 2 (by omega)]; exact hc 2 _ rfl⟩
end Go.Proofs.Ytbpdejbkfpkphaa.K
end

section
namespace Go.Proofs.Ytbpdejbkfpkphaa.K
open Go.RowKit Go.Proofs.YtbpdejbkfpkphaaW.PrintWords Go.Proofs.YtbpdejbkfpkphaaW.PrintLast Go.Proofs.YtbpdejbkfpkphaaW.PrintMore
attribute [local go_sem] jU jT jZ jY jO jP jW jV
mutual
def spans_Sound.j0 : Nat → Int → Int → Bool → Int → List (S60) → Option (Bool)
  | 0, _, _, _, _, _ => none
  | k + 1, x1, x2, x27, x222000, x222001 => if x27 = true then (some false) else (spans_Sound.l0 k x1 x2 x222001 (x222001.length : Int) 0 (-1) (-1))
def spans_Sound.l0 : Nat → Int → Int → List (S60) → Int → Int → Int → Int → Option (Bool)
  | 0, _, _, _, _, _, _, _ => none
  | k + 1, x1, x2, x30, x31, x32, x224000, x224001 => if x32 < x31 then (if 0 ≤ x32 then (if x32 < (x30.length : Int) then (if ((iT x30 x32).f0) ≤ x224000 then (some false) else (if ((iT x30 x32).f0) ≥ x1 then (some false) else (if ((iT x30 x32).f1) = x224001 then (some false) else (if ((iT x30 x32).f1) < 0 then (some false) else (if ((iT x30 x32).f1) ≥ (mn x2 6) then (some false) else (spans_Sound.l0 k x1 x2 x30 x31 (wrap64 (x32 + 1)) ((iT x30 x32).f0) ((iT x30 x32).f1))))))) else (none)) else (none)) else (some true)
end
def spans_Sound.f (k : Nat) (a0_0 : Int) (l0_1 : List (S60)) (a1 : Int) (a2 : Int) : Option (Bool) := if (l0_1.length : Int) = 0 then (spans_Sound.j0 k a1 a2 true a0_0 l0_1) else (if (l0_1.length : Int) > 40 then (spans_Sound.j0 k a1 a2 true a0_0 l0_1) else (if 0 < (l0_1.length : Int) then (spans_Sound.j0 k a1 a2 (((iT l0_1 0).f0) != 0) a0_0 l0_1) else (none)))
theorem spans_Sound.mono_l : ∀ k, (∀ y0 y1 y2 y3 y4, LeO (spans_Sound.j0 k y0 y1 y2 y3 y4) (spans_Sound.j0 (k + 1) y0 y1 y2 y3 y4)) ∧ (∀ y0 y1 y2 y3 y4 y5 y6, LeO (spans_Sound.l0 k y0 y1 y2 y3 y4 y5 y6) (spans_Sound.l0 (k + 1) y0 y1 y2 y3 y4 y5 y6))
  | 0 => ⟨fun _ _ _ _ _ r h => by simp [spans_Sound.j0] at h, fun _ _ _ _ _ _ _ r h => by simp [spans_Sound.l0] at h⟩
  | k + 1 => by
    obtain ⟨ih0, ih1⟩ := spans_Sound.mono_l k
    refine ⟨?_, ?_⟩
    · intro y0 y1 y2 y3 y4
      unfold spans_Sound.j0
      repeat' first
      | (with_reducible exact ih0 _ _ _ _ _)
      | (with_reducible exact ih1 _ _ _ _ _ _ _)
      | (with_reducible exact LeO.refl _)
      | (with_reducible exact LeO.none _)
      | (with_reducible refine LeO.ite ?_ ?_)
      | (with_reducible refine LeO.bind ?_ (fun _ => ?_))
      | exact ih0 _ _ _ _ _
      | exact ih1 _ _ _ _ _ _ _
      | exact LeO.none _
      | refine LeO.ite ?_ ?_
      | refine LeO.bind ?_ (fun _ => ?_)
    · intro y0 y1 y2 y3 y4 y5 y6
      unfold spans_Sound.l0
      repeat' first
      | (with_reducible exact ih0 _ _ _ _ _)
      | (with_reducible exact ih1 _ _ _ _ _ _ _)
      | (with_reducible exact LeO.refl _)
      | (with_reducible exact LeO.none _)
      | (with_reducible refine LeO.ite ?_ ?_)
      | (with_reducible refine LeO.bind ?_ (fun _ => ?_))
      | exact ih0 _ _ _ _ _
      | exact ih1 _ _ _ _ _ _ _
      | exact LeO.none _
      | refine LeO.ite ?_ ?_
      | refine LeO.bind ?_ (fun _ => ?_)
theorem spans_Sound.mono : ∀ a0 a1 a2 a3 k, LeO (spans_Sound.f k a0 a1 a2 a3) (spans_Sound.f (k + 1) a0 a1 a2 a3) := by
  intro a0 a1 a2 a3 k
  obtain ⟨ih0, ih1⟩ := spans_Sound.mono_l k
  unfold spans_Sound.f
  repeat' first
      | (with_reducible exact ih0 _ _ _ _ _)
      | (with_reducible exact ih1 _ _ _ _ _ _ _)
      | (with_reducible exact LeO.refl _)
      | (with_reducible exact LeO.none _)
      | (with_reducible refine LeO.ite ?_ ?_)
      | (with_reducible refine LeO.bind ?_ (fun _ => ?_))
      | exact ih0 _ _ _ _ _
      | exact ih1 _ _ _ _ _ _ _
      | exact LeO.none _
      | refine LeO.ite ?_ ?_
      | refine LeO.bind ?_ (fun _ => ?_)
set_option maxHeartbeats 8000000 in
set_option maxRecDepth 100000 in
theorem spans_Sound.calls (k : Nat) (a0_0 : Int) (A0_1 : Option Addr) (c0_1 : Nat) (l0_1 : List (S60)) (a1 : Int) (a2 : Int) (r : Bool) (w : World) (hr0_1 : Kd.C k60 w A0_1 l0_1.length l0_1) (hc0_1 : l0_1.length ≤ c0_1) (h : spans_Sound.f k a0_0 l0_1 a1 a2 = some r) :
    Calls Try.prog 33 #[.agg #[.int .u32 a0_0, .slice A0_1 l0_1.length c0_1], .int .i64 a1, .int .i64 a2] w fun e w' => e = .returned (.bool r) ∧ Below w.heap.size w w' := by
  have hu42 := Try.underlying42
  have hu60 := Try.underlying60
  have HR0_1 := iC.mk hr0_1
  have HC0_1 := iC.mk hc0_1
  clear hr0_1 hc0_1
  have HB := iC.mk (Below.refl w.heap.size w)
  have H : (if (l0_1.length : Int) = 0 then (spans_Sound.j0 k a1 a2 true a0_0 l0_1) else (if (l0_1.length : Int) > 40 then (spans_Sound.j0 k a1 a2 true a0_0 l0_1) else (if 0 < (l0_1.length : Int) then (spans_Sound.j0 k a1 a2 (((iT l0_1 0).f0) != 0) a0_0 l0_1) else (none)))) = some r := h
  clear h
  have HC4 := iC.mk H
  clear H
  go_enter Try.func33, Try.ntmps33
  go_upto_region 1 with (first | ((with_reducible refine jC (N := 3) rfl ?_); (try (refine iW (by rfl) ?_; dsimp only)); refine jA ?hg (N := 3) ?hd (cs := #[.int .u32 a0_0, .slice A0_1 l0_1.length c0_1]) (t := 42) ?hr ?_; (case hd => rfl); (case hg => rfl); (case hr => first | (go_simp; done) | (go_simp; rfl)); intro gb221 hg w5 hbox hb; have n0_ := iC.mk (iK hb_ hb); have n1_ := iC.mk (hbox); have n2_ := iC.mk ((by rw [hg]; exact (iJ hb_) : w.heap.size ≤ gb221)); have n3_ := iC.mk ((by rw [hg]; exact (iJ hb_) : w.heap.size ≤ gb221)); clear HB; have HB := n0_; have BK221 := n1_; have GW221 := n2_; have GE221 := n3_; clear n0_ n1_ n2_ n3_; clear hb hbox hg))
  (try simp only [Act.put, List.setIfInBounds_toArray, List.set_cons_zero, List.set_cons_succ])
  go_cut [27] (fun v27 wc => ∃ (kq : Nat) (x27_3 : Bool), v27 = .bool x27_3 ∧ iC (spans_Sound.j0 kq a1 a2 x27_3 a0_0 l0_1 = some r) ∧ iC (kq ≤ k) ∧ iC (wc.heap[gb221]? = some (.cells #[.int .u32 a0_0, (.slice A0_1 l0_1.length c0_1)] 42 (0, 0))) ∧ iC (Below w.heap.size w wc))
  case first =>
    have H := HC4.out
    clear HC4
    by_cases c6 : (l0_1.length : Int) = 0
    · rw [if_pos c6] at H
      have c6b0 : ((l0_1.length : Int) == 0) = true := beq_iff_eq.mpr c6
      have c6b1 : ((l0_1.length : Int) != 0) = false := bne_eq_false_iff_eq.mpr c6
      clear c6
      (first | rw [c6b0] | (simp only [iY, iZ]; rw [c6b0]) | skip)
      have H' := iC.mk H
      clear H
      have hcz7_0 : w5.cell? ⟨gb221, 0, none⟩ = some (.int .u32 a0_0) := (iI BK221.out 0).trans rfl
      have hcz7_1 : w5.cell? ⟨gb221, 1, none⟩ = some (.slice A0_1 l0_1.length c0_1) := (iI BK221.out 1).trans rfl
      have hfz7_0 := iH BK221.out 0
      have hfz7_1 := iH BK221.out 1
      go_wp2
      go_meet
      case rel => exact ⟨_, (true), (by first | rfl | (simp; done) | (simp [*]; done)), H', ⟨by first | omega | exact Nat.le_refl _⟩, ⟨bk_ BK221.out⟩, ⟨by repeat (first | (with_reducible first | exact HB.out | apply iF | apply iD | apply iG | refine iE ?_ GE221.out) | exact HB.out)⟩⟩
    · rw [if_neg c6] at H
      have c6b0 : ((l0_1.length : Int) == 0) = false := beq_eq_false_iff_ne.mpr c6
      have c6b1 : ((l0_1.length : Int) != 0) = true := bne_iff_ne.mpr c6
      have c6b2 : ¬ (l0_1 = []) := fun h_ => c6 (by rw [h_]; rfl)
      (first | rw [c6b0] | (simp only [iY, iZ]; rw [c6b0]) | skip)
      by_cases c8 : (l0_1.length : Int) > 40
      · rw [if_pos c8] at H
        have c8b0 : decide (40 < (l0_1.length : Int)) = true := decide_eq_true c8
        have c8b1 : decide (40 < l0_1.length) = true := decide_eq_true (by omega)
        clear c8
        have H' := iC.mk H
        clear H
        have hcz9_0 : w5.cell? ⟨gb221, 0, none⟩ = some (.int .u32 a0_0) := (iI BK221.out 0).trans rfl
        have hcz9_1 : w5.cell? ⟨gb221, 1, none⟩ = some (.slice A0_1 l0_1.length c0_1) := (iI BK221.out 1).trans rfl
        have hfz9_0 := iH BK221.out 0
        have hfz9_1 := iH BK221.out 1
        go_wp2
        go_meet
        case rel => exact ⟨_, (true), (by first | rfl | (simp; done) | (simp [*]; done)), H', ⟨by first | omega | exact Nat.le_refl _⟩, ⟨bk_ BK221.out⟩, ⟨by repeat (first | (with_reducible first | exact HB.out | apply iF | apply iD | apply iG | refine iE ?_ GE221.out) | exact HB.out)⟩⟩
      · rw [if_neg c8] at H
        have c8b0 : decide (40 < (l0_1.length : Int)) = false := decide_eq_false c8
        have c8b1 : decide (40 < l0_1.length) = false := decide_eq_false (by omega)
        clear c8
        by_cases c10 : 0 < (l0_1.length : Int)
        · rw [if_pos c10] at H
          have c10b0 : decide (0 < (l0_1.length : Int)) = true := decide_eq_true c10
          have c10b1 : decide (0 < l0_1.length) = true := decide_eq_true (by omega)
          clear c10
          have H' := iC.mk H
          clear H
          have hcz11_0 : w5.cell? ⟨gb221, 0, none⟩ = some (.int .u32 a0_0) := (iI BK221.out 0).trans rfl
          have hcz11_1 : w5.cell? ⟨gb221, 1, none⟩ = some (.slice A0_1 l0_1.length c0_1) := (iI BK221.out 1).trans rfl
          have hfz11_0 := iH BK221.out 0
          have hfz11_1 := iH BK221.out 1
          have p222 : 0 ≤ (0 : Int) := (by omega)
          have q222 : 0 < (l0_1.length : Int) := of_decide_eq_true asm_
          obtain ⟨ad222, e222, hx222_0, hx222_1⟩ := jK HR0_1.out 0 p222 q222
          cases e222
          have qi222 : (0 < l0_1.length) = True := eq_true (by omega)
          (try rw [show ((0 : Int)).toNat = 0 from rfl] at hx222_0)
          (try rw [show 0 * 2 = 0 from rfl] at hx222_0)
          (try rw [Addr.add_zero'] at hx222_0)
          (try rw [show ((0 : Int)).toNat = 0 from rfl] at hx222_1)
          (try rw [show 0 * 2 = 0 from rfl] at hx222_1)
          (try rw [Addr.add_zero'] at hx222_1)
          replace hx222_0 := (HB.out.cell (World.block_lt_of_cell? w _ hx222_0)).trans hx222_0
          replace hx222_1 := (HB.out.cell (World.block_lt_of_cell? w _ hx222_1)).trans hx222_1
          replace p222 := eq_true p222
          replace q222 := eq_true q222
          go_wp2
          go_meet
          case rel => exact ⟨_, ((((iT l0_1 0).f0) != 0)), (by first | rfl | (simp; done) | (simp [*]; done)), H', ⟨by first | omega | exact Nat.le_refl _⟩, ⟨bk_ BK221.out⟩, ⟨by repeat (first | (with_reducible first | exact HB.out | apply iF | apply iD | apply iG | refine iE ?_ GE221.out) | exact HB.out)⟩⟩
        · rw [if_neg c10] at H
          exact absurd H (by simp)
  case rest =>
    clear HC4
    try clear c1
    try clear p2
    try clear q2
    try clear hx2
    try clear qi2
    try clear c3
    try clear c6
    try clear c6b0
    try clear c6b1
    try clear c6b2
    try clear c8
    try clear c8b0
    try clear c8b1
    try clear c10
    try clear c10b0
    try clear c10b1
    try clear hcz11_0
    try clear hcz11_1
    try clear hcz7_0
    try clear hcz7_1
    try clear hcz9_0
    try clear hcz9_1
    try clear hfz11_0
    try clear hfz11_1
    try clear hfz7_0
    try clear hfz7_1
    try clear hfz9_0
    try clear hfz9_1
    try clear hx222_0
    try clear hx222_1
    try clear p222
    try clear q222
    obtain ⟨kq, x27_3, rfl, HA, HJ3, BK221, HB⟩ := hcut
    cases kq with
    | zero => exact absurd HA.out (by simp [spans_Sound.j0])
    | succ kj3 =>
      have H := HA.out
      clear HA
      simp only [spans_Sound.j0] at H
      by_cases c12 : x27_3 = true
      · subst c12
        have H1 : (some false) = some r := by rw [if_pos rfl] at H; exact H
        clear H
        have H := H1
        clear H1
        obtain rfl := Option.some.inj H
        go_wp2
        go_ret
        exact ⟨by first | rfl | (simp [iR, iQ] <;> rfl) | (simp [*, iR, iQ] <;> rfl), by repeat (first | (with_reducible first | exact HB.out | apply iF | apply iD | apply iG | refine iE ?_ GE221.out) | exact HB.out)⟩
      · replace c12 := Bool.eq_false_iff.mpr c12
        subst c12
        have H1 : (spans_Sound.l0 kj3 a1 a2 l0_1 (l0_1.length : Int) 0 (-1) (-1)) = some r := by rw [if_neg (show ¬ (false = true) by decide)] at H; exact H
        clear H
        have H := H1
        clear H1
        have H' := iC.mk H
        clear H
        go_wp2_with (first | ((with_reducible refine jC (N := 7) rfl ?_); (try (refine iW (by rfl) ?_; dsimp only)); refine jA ?hg (N := 7) ?hd (cs := #[.int .i64 0, .int .i64 0]) (t := 60) ?hr ?_; (case hd => rfl); (case hg => rfl); (case hr => first | (go_simp; done) | (go_simp; rfl)); intro gb223 hg w13 hbox hb; have n0_ := iC.mk (iP (g := gb221) (o := .cells #[.int .u32 a0_0, .slice A0_1 l0_1.length c0_1] 42 (0, 0)) (bk_ BK221.out) hb); have n1_ := iC.mk (iK (by repeat (first | (with_reducible first | exact HB.out | apply iF | apply iD | apply iG | refine iE ?_ GE221.out) | exact HB.out)) hb); have n2_ := iC.mk (hbox); have n3_ := iC.mk ((by rw [hg]; exact (iJ (by repeat (first | (with_reducible first | exact HB.out | apply iF | apply iD | apply iG | refine iE ?_ GE221.out) | exact HB.out))) : w.heap.size ≤ gb223)); have n4_ := iC.mk ((by rw [hg]; exact (iJ (by repeat (first | (with_reducible first | exact HB.out | apply iF | apply iD | apply iG | refine iE ?_ GE221.out) | exact HB.out))) : w.heap.size ≤ gb223)); have n5_ := iC.mk ((by rw [hg]; exact Nat.ne_of_lt (jE (g := gb221) (o := .cells #[.int .u32 a0_0, .slice A0_1 l0_1.length c0_1] 42 (0, 0)) (bk_ BK221.out)) : gb221 ≠ gb223)); have n6_ := iC.mk ((by rw [hg]; exact Nat.ne_of_gt (jE (g := gb221) (o := .cells #[.int .u32 a0_0, .slice A0_1 l0_1.length c0_1] 42 (0, 0)) (bk_ BK221.out)) : gb223 ≠ gb221)); clear BK221; clear HB; have BK221 := n0_; have HB := n1_; have BK223 := n2_; have GW223 := n3_; have GE223 := n4_; have NB221_223 := n5_; have NB223_221 := n6_; clear n0_ n1_ n2_ n3_ n4_ n5_ n6_; clear hb hbox hg; have hnb14 := NB223_221.out; have hnc14 := NB221_223.out; have hcz15_0 : w13.cell? ⟨gb223, 0, none⟩ = some (.int .i64 0) := (iI BK223.out 0).trans rfl; have hcz15_1 : w13.cell? ⟨gb223, 1, none⟩ = some (.int .i64 0) := (iI BK223.out 1).trans rfl; have hfz15_0 := iH BK223.out 0; have hfz15_1 := iH BK223.out 1; have hcz16_0 : w13.cell? ⟨gb221, 0, none⟩ = some (.int .u32 a0_0) := (iI BK221.out 0).trans rfl; have hcz16_1 : w13.cell? ⟨gb221, 1, none⟩ = some (.slice A0_1 l0_1.length c0_1) := (iI BK221.out 1).trans rfl; have hfz16_0 := iH BK221.out 0; have hfz16_1 := iH BK221.out 1))
        go_loopg [32] kj3 (fun kq v32 w' => ∃ (x32_2 : Int) (x224000_2 : Int) (x224001_2 : Int), v32 = .int .i64 x32_2 ∧ iC (spans_Sound.l0 kq a1 a2 l0_1 (l0_1.length : Int) x32_2 x224000_2 x224001_2 = some r) ∧ iC (kq ≤ kj3) ∧ iC (w'.heap[gb221]? = some (.cells #[.int .u32 a0_0, (.slice A0_1 l0_1.length c0_1)] 42 (0, 0))) ∧ iC (w'.heap[gb223]? = some (.cells #[.int .i64 x224000_2, .int .i64 x224001_2] 60 (0, 0))) ∧ iC (Below w.heap.size w w'))
        case atStart => exact ⟨(0), ((-1)), ((-1)), (by first | rfl | (simp; done) | (simp [*]; done)), H', ⟨Nat.le_refl _⟩, ⟨by (with_reducible repeat (first | refine iM ?_ _ | refine iO ?_ | refine iL ?_ _)); refine jH ?_ NB221_223.out _; (with_reducible repeat (first | refine iM ?_ _ | refine iO ?_ | refine iL ?_ _)); refine jH ?_ NB221_223.out _; (with_reducible repeat (first | refine iM ?_ _ | refine iO ?_ | refine iL ?_ _)); exact BK221.out⟩, ⟨by (with_reducible repeat (first | refine iM ?_ _ | refine iO ?_ | refine iL ?_ _)); refine jD (cs := #[.int .i64 (-1), .int .i64 0]) ?_ 1 _ rfl; (with_reducible repeat (first | refine iM ?_ _ | refine iO ?_ | refine iL ?_ _)); refine jD (cs := #[.int .i64 0, .int .i64 0]) ?_ 0 _ rfl; (with_reducible repeat (first | refine iM ?_ _ | refine iO ?_ | refine iL ?_ _)); exact BK223.out⟩, ⟨by repeat (first | (with_reducible first | exact HB.out | apply iF | apply iD | apply iG | refine iE ?_ GE221.out | refine iE ?_ GE223.out) | exact HB.out)⟩⟩
        case round =>
          clear H'
          try clear c1
          try clear p2
          try clear q2
          try clear hx2
          try clear qi2
          try clear c3
          try clear c6
          try clear c6b0
          try clear c6b1
          try clear c6b2
          try clear c8
          try clear c8b0
          try clear c8b1
          try clear c10
          try clear c10b0
          try clear c10b1
          try clear c12
          try clear c14
          try clear hcz11_0
          try clear hcz11_1
          try clear hcz15_0
          try clear hcz15_1
          try clear hcz16_0
          try clear hcz16_1
          try clear hcz7_0
          try clear hcz7_1
          try clear hcz9_0
          try clear hcz9_1
          try clear hfz11_0
          try clear hfz11_1
          try clear hfz15_0
          try clear hfz15_1
          try clear hfz16_0
          try clear hfz16_1
          try clear hfz7_0
          try clear hfz7_1
          try clear hfz9_0
          try clear hfz9_1
          try clear hx222_0
          try clear hx222_1
          try clear p2
          try clear p222
          try clear q2
          try clear q222
          obtain ⟨x32_2, x224000_2, x224001_2, rfl, HA, HK2, BK221, BK223, HB⟩ := hrel
          cases gk with
          | zero => exact absurd HA.out (by simp [spans_Sound.l0])
          | succ k2 =>
            have H := HA.out
            clear HA
            simp only [spans_Sound.l0] at H
            by_cases c17 : x32_2 < (l0_1.length : Int)
            · rw [if_pos c17] at H
              have c17b0 : decide (x32_2 < (l0_1.length : Int)) = true := decide_eq_true c17
              clear c17
              by_cases c18 : 0 ≤ x32_2
              · rw [if_pos c18] at H
                have c18b0 : decide (0 ≤ x32_2) = true := decide_eq_true c18
                clear c18
                by_cases c19 : x32_2 < (l0_1.length : Int)
                · rw [if_pos c19] at H
                  have c19b0 : decide (x32_2 < (l0_1.length : Int)) = true := decide_eq_true c19
                  clear c19
                  by_cases c20 : ((iT l0_1 x32_2).f0) ≤ x224000_2
                  · rw [if_pos c20] at H
                    have c20b0 : decide (((iT l0_1 x32_2).f0) ≤ x224000_2) = true := decide_eq_true c20
                    clear c20
                    obtain rfl := Option.some.inj H
                    have p224 : 0 ≤ (x32_2 : Int) := of_decide_eq_true asm_
                    have q224 : x32_2 < (l0_1.length : Int) := of_decide_eq_true asm_
                    obtain ⟨ad224, e224, hx224_0, hx224_1⟩ := jK HR0_1.out x32_2 p224 q224
                    cases e224
                    replace hx224_0 := (HB.out.cell (World.block_lt_of_cell? w _ hx224_0)).trans hx224_0
                    replace hx224_1 := (HB.out.cell (World.block_lt_of_cell? w _ hx224_1)).trans hx224_1
                    replace p224 := eq_true p224
                    replace q224 := eq_true q224
                    go_wp2_with (first | ((with_reducible refine jC (N := 9) rfl ?_); (try (refine iW (by rfl) ?_; dsimp only)); refine jA ?hg (N := 9) ?hd (cs := #[.int .i64 0, .int .i64 0]) (t := 60) ?hr ?_; (case hd => rfl); (case hg => rfl); (case hr => first | (go_simp; done) | (go_simp; rfl)); intro gb225 hg w21 hbox hb; have n0_ := iC.mk (iP (g := gb221) (o := .cells #[.int .u32 a0_0, .slice (some ad224) l0_1.length c0_1] 42 (0, 0)) (bk_ BK221.out) hb); have n1_ := iC.mk (iP (g := gb223) (o := .cells #[.int .i64 x224000_2, .int .i64 x224001_2] 60 (0, 0)) (bk_ BK223.out) hb); have n2_ := iC.mk (iK (by repeat (first | (with_reducible first | exact HB.out | apply iF | apply iD | apply iG | refine iE ?_ GE221.out | refine iE ?_ GE223.out) | exact HB.out)) hb); have n3_ := iC.mk (hbox); have n4_ := iC.mk ((by rw [hg]; exact (iJ (by repeat (first | (with_reducible first | exact HB.out | apply iF | apply iD | apply iG | refine iE ?_ GE221.out | refine iE ?_ GE223.out) | exact HB.out))) : w.heap.size ≤ gb225)); have n5_ := iC.mk ((by rw [hg]; exact (iJ (by repeat (first | (with_reducible first | exact HB.out | apply iF | apply iD | apply iG | refine iE ?_ GE221.out | refine iE ?_ GE223.out) | exact HB.out))) : w.heap.size ≤ gb225)); have n6_ := iC.mk ((by rw [hg]; exact Nat.ne_of_lt (jE (g := gb221) (o := .cells #[.int .u32 a0_0, .slice (some ad224) l0_1.length c0_1] 42 (0, 0)) (bk_ BK221.out)) : gb221 ≠ gb225)); have n7_ := iC.mk ((by rw [hg]; exact Nat.ne_of_gt (jE (g := gb221) (o := .cells #[.int .u32 a0_0, .slice (some ad224) l0_1.length c0_1] 42 (0, 0)) (bk_ BK221.out)) : gb225 ≠ gb221)); have n8_ := iC.mk ((by rw [hg]; exact Nat.ne_of_lt (jE (g := gb223) (o := .cells #[.int .i64 x224000_2, .int .i64 x224001_2] 60 (0, 0)) (bk_ BK223.out)) : gb223 ≠ gb225)); have n9_ := iC.mk ((by rw [hg]; exact Nat.ne_of_gt (jE (g := gb223) (o := .cells #[.int .i64 x224000_2, .int .i64 x224001_2] 60 (0, 0)) (bk_ BK223.out)) : gb225 ≠ gb223)); clear BK221; clear BK223; clear HB; have BK221 := n0_; have BK223 := n1_; have HB := n2_; have BK225 := n3_; have GW225 := n4_; have GE225 := n5_; have NB221_225 := n6_; have NB225_221 := n7_; have NB223_225 := n8_; have NB225_223 := n9_; clear n0_ n1_ n2_ n3_ n4_ n5_ n6_ n7_ n8_ n9_; clear hb hbox hg; have hnb22 := NB225_221.out; have hnc22 := NB221_225.out; have hnb23 := NB225_223.out; have hnc23 := NB223_225.out; have hcz24_0 : w21.cell? ⟨gb225, 0, none⟩ = some (.int .i64 0) := (iI BK225.out 0).trans rfl; have hcz24_1 : w21.cell? ⟨gb225, 1, none⟩ = some (.int .i64 0) := (iI BK225.out 1).trans rfl; have hfz24_0 := iH BK225.out 0; have hfz24_1 := iH BK225.out 1; have hnb25 := NB223_221.out; have hnc25 := NB221_223.out; have hcz26_0 : w21.cell? ⟨gb223, 0, none⟩ = some (.int .i64 x224000_2) := (iI BK223.out 0).trans rfl; have hcz26_1 : w21.cell? ⟨gb223, 1, none⟩ = some (.int .i64 x224001_2) := (iI BK223.out 1).trans rfl; have hfz26_0 := iH BK223.out 0; have hfz26_1 := iH BK223.out 1))
                    go_ret
                    exact ⟨by first | rfl | (simp [iR, iQ] <;> rfl) | (simp [*, iR, iQ] <;> rfl), by repeat (first | (with_reducible first | exact HB.out | apply iF | apply iD | apply iG | refine iE ?_ GE221.out | refine iE ?_ GE223.out | refine iE ?_ GE225.out) | exact HB.out)⟩
                  · rw [if_neg c20] at H
                    have c20b0 : decide (((iT l0_1 x32_2).f0) ≤ x224000_2) = false := decide_eq_false c20
                    clear c20
                    by_cases c27 : ((iT l0_1 x32_2).f0) ≥ a1
                    · rw [if_pos c27] at H
                      have c27b0 : decide (a1 ≤ ((iT l0_1 x32_2).f0)) = true := decide_eq_true c27
                      clear c27
                      obtain rfl := Option.some.inj H
                      have p224 : 0 ≤ (x32_2 : Int) := of_decide_eq_true asm_
                      have q224 : x32_2 < (l0_1.length : Int) := of_decide_eq_true asm_
                      obtain ⟨ad224, e224, hx224_0, hx224_1⟩ := jK HR0_1.out x32_2 p224 q224
                      cases e224
                      replace hx224_0 := (HB.out.cell (World.block_lt_of_cell? w _ hx224_0)).trans hx224_0
                      replace hx224_1 := (HB.out.cell (World.block_lt_of_cell? w _ hx224_1)).trans hx224_1
                      replace p224 := eq_true p224
                      replace q224 := eq_true q224
                      go_wp2_with (first | ((with_reducible refine jC (N := 9) rfl ?_); (try (refine iW (by rfl) ?_; dsimp only)); refine jA ?hg (N := 9) ?hd (cs := #[.int .i64 0, .int .i64 0]) (t := 60) ?hr ?_; (case hd => rfl); (case hg => rfl); (case hr => first | (go_simp; done) | (go_simp; rfl)); intro gb225 hg w28 hbox hb; have n0_ := iC.mk (iP (g := gb221) (o := .cells #[.int .u32 a0_0, .slice (some ad224) l0_1.length c0_1] 42 (0, 0)) (bk_ BK221.out) hb); have n1_ := iC.mk (iP (g := gb223) (o := .cells #[.int .i64 x224000_2, .int .i64 x224001_2] 60 (0, 0)) (bk_ BK223.out) hb); have n2_ := iC.mk (iK (by repeat (first | (with_reducible first | exact HB.out | apply iF | apply iD | apply iG | refine iE ?_ GE221.out | refine iE ?_ GE223.out) | exact HB.out)) hb); have n3_ := iC.mk (hbox); have n4_ := iC.mk ((by rw [hg]; exact (iJ (by repeat (first | (with_reducible first | exact HB.out | apply iF | apply iD | apply iG | refine iE ?_ GE221.out | refine iE ?_ GE223.out) | exact HB.out))) : w.heap.size ≤ gb225)); have n5_ := iC.mk ((by rw [hg]; exact (iJ (by repeat (first | (with_reducible first | exact HB.out | apply iF | apply iD | apply iG | refine iE ?_ GE221.out | refine iE ?_ GE223.out) | exact HB.out))) : w.heap.size ≤ gb225)); have n6_ := iC.mk ((by rw [hg]; exact Nat.ne_of_lt (jE (g := gb221) (o := .cells #[.int .u32 a0_0, .slice (some ad224) l0_1.length c0_1] 42 (0, 0)) (bk_ BK221.out)) : gb221 ≠ gb225)); have n7_ := iC.mk ((by rw [hg]; exact Nat.ne_of_gt (jE (g := gb221) (o := .cells #[.int .u32 a0_0, .slice (some ad224) l0_1.length c0_1] 42 (0, 0)) (bk_ BK221.out)) : gb225 ≠ gb221)); have n8_ := iC.mk ((by rw [hg]; exact Nat.ne_of_lt (jE (g := gb223) (o := .cells #[.int .i64 x224000_2, .int .i64 x224001_2] 60 (0, 0)) (bk_ BK223.out)) : gb223 ≠ gb225)); have n9_ := iC.mk ((by rw [hg]; exact Nat.ne_of_gt (jE (g := gb223) (o := .cells #[.int .i64 x224000_2, .int .i64 x224001_2] 60 (0, 0)) (bk_ BK223.out)) : gb225 ≠ gb223)); clear BK221; clear BK223; clear HB; have BK221 := n0_; have BK223 := n1_; have HB := n2_; have BK225 := n3_; have GW225 := n4_; have GE225 := n5_; have NB221_225 := n6_; have NB225_221 := n7_; have NB223_225 := n8_; have NB225_223 := n9_; clear n0_ n1_ n2_ n3_ n4_ n5_ n6_ n7_ n8_ n9_; clear hb hbox hg; have hnb29 := NB225_221.out; have hnc29 := NB221_225.out; have hnb30 := NB225_223.out; have hnc30 := NB223_225.out; have hcz31_0 : w28.cell? ⟨gb225, 0, none⟩ = some (.int .i64 0) := (iI BK225.out 0).trans rfl; have hcz31_1 : w28.cell? ⟨gb225, 1, none⟩ = some (.int .i64 0) := (iI BK225.out 1).trans rfl; have hfz31_0 := iH BK225.out 0; have hfz31_1 := iH BK225.out 1; have hnb32 := NB223_221.out; have hnc32 := NB221_223.out; have hcz33_0 : w28.cell? ⟨gb223, 0, none⟩ = some (.int .i64 x224000_2) := (iI BK223.out 0).trans rfl; have hcz33_1 : w28.cell? ⟨gb223, 1, none⟩ = some (.int .i64 x224001_2) := (iI BK223.out 1).trans rfl; have hfz33_0 := iH BK223.out 0; have hfz33_1 := iH BK223.out 1))
                      go_ret
                      exact ⟨by first | rfl | (simp [iR, iQ] <;> rfl) | (simp [*, iR, iQ] <;> rfl), by repeat (first | (with_reducible first | exact HB.out | apply iF | apply iD | apply iG | refine iE ?_ GE221.out | refine iE ?_ GE223.out | refine iE ?_ GE225.out) | exact HB.out)⟩
                    · rw [if_neg c27] at H
                      have c27b0 : decide (a1 ≤ ((iT l0_1 x32_2).f0)) = false := decide_eq_false c27
                      clear c27
                      by_cases c34 : ((iT l0_1 x32_2).f1) = x224001_2
                      · rw [if_pos c34] at H
                        have c34b0 : (((iT l0_1 x32_2).f1) == x224001_2) = true := beq_iff_eq.mpr c34
                        have c34b1 : (((iT l0_1 x32_2).f1) != x224001_2) = false := bne_eq_false_iff_eq.mpr c34
                        clear c34
                        obtain rfl := Option.some.inj H
                        have p224 : 0 ≤ (x32_2 : Int) := of_decide_eq_true asm_
                        have q224 : x32_2 < (l0_1.length : Int) := of_decide_eq_true asm_
                        obtain ⟨ad224, e224, hx224_0, hx224_1⟩ := jK HR0_1.out x32_2 p224 q224
                        cases e224
                        replace hx224_0 := (HB.out.cell (World.block_lt_of_cell? w _ hx224_0)).trans hx224_0
                        replace hx224_1 := (HB.out.cell (World.block_lt_of_cell? w _ hx224_1)).trans hx224_1
                        replace p224 := eq_true p224
                        replace q224 := eq_true q224
                        go_wp2_with (first | ((with_reducible refine jC (N := 9) rfl ?_); (try (refine iW (by rfl) ?_; dsimp only)); refine jA ?hg (N := 9) ?hd (cs := #[.int .i64 0, .int .i64 0]) (t := 60) ?hr ?_; (case hd => rfl); (case hg => rfl); (case hr => first | (go_simp; done) | (go_simp; rfl)); intro gb225 hg w35 hbox hb; have n0_ := iC.mk (iP (g := gb221) (o := .cells #[.int .u32 a0_0, .slice (some ad224) l0_1.length c0_1] 42 (0, 0)) (bk_ BK221.out) hb); have n1_ := iC.mk (iP (g := gb223) (o := .cells #[.int .i64 x224000_2, .int .i64 x224001_2] 60 (0, 0)) (bk_ BK223.out) hb); have n2_ := iC.mk (iK (by repeat (first | (with_reducible first | exact HB.out | apply iF | apply iD | apply iG | refine iE ?_ GE221.out | refine iE ?_ GE223.out) | exact HB.out)) hb); have n3_ := iC.mk (hbox); have n4_ := iC.mk ((by rw [hg]; exact (iJ (by repeat (first | (with_reducible first | exact HB.out | apply iF | apply iD | apply iG | refine iE ?_ GE221.out | refine iE ?_ GE223.out) | exact HB.out))) : w.heap.size ≤ gb225)); have n5_ := iC.mk ((by rw [hg]; exact (iJ (by repeat (first | (with_reducible first | exact HB.out | apply iF | apply iD | apply iG | refine iE ?_ GE221.out | refine iE ?_ GE223.out) | exact HB.out))) : w.heap.size ≤ gb225)); have n6_ := iC.mk ((by rw [hg]; exact Nat.ne_of_lt (jE (g := gb221) (o := .cells #[.int .u32 a0_0, .slice (some ad224) l0_1.length c0_1] 42 (0, 0)) (bk_ BK221.out)) : gb221 ≠ gb225)); have n7_ := iC.mk ((by rw [hg]; exact Nat.ne_of_gt (jE (g := gb221) (o := .cells #[.int .u32 a0_0, .slice (some ad224) l0_1.length c0_1] 42 (0, 0)) (bk_ BK221.out)) : gb225 ≠ gb221)); have n8_ := iC.mk ((by rw [hg]; exact Nat.ne_of_lt (jE (g := gb223) (o := .cells #[.int .i64 x224000_2, .int .i64 x224001_2] 60 (0, 0)) (bk_ BK223.out)) : gb223 ≠ gb225)); have n9_ := iC.mk ((by rw [hg]; exact Nat.ne_of_gt (jE (g := gb223) (o := .cells #[.int .i64 x224000_2, .int .i64 x224001_2] 60 (0, 0)) (bk_ BK223.out)) : gb225 ≠ gb223)); clear BK221; clear BK223; clear HB; have BK221 := n0_; have BK223 := n1_; have HB := n2_; have BK225 := n3_; have GW225 := n4_; have GE225 := n5_; have NB221_225 := n6_; have NB225_221 := n7_; have NB223_225 := n8_; have NB225_223 := n9_; clear n0_ n1_ n2_ n3_ n4_ n5_ n6_ n7_ n8_ n9_; clear hb hbox hg; have hnb36 := NB225_221.out; have hnc36 := NB221_225.out; have hnb37 := NB225_223.out; have hnc37 := NB223_225.out; have hcz38_0 : w35.cell? ⟨gb225, 0, none⟩ = some (.int .i64 0) := (iI BK225.out 0).trans rfl; have hcz38_1 : w35.cell? ⟨gb225, 1, none⟩ = some (.int .i64 0) := (iI BK225.out 1).trans rfl; have hfz38_0 := iH BK225.out 0; have hfz38_1 := iH BK225.out 1; have hnb39 := NB223_221.out; have hnc39 := NB221_223.out; have hcz40_0 : w35.cell? ⟨gb223, 0, none⟩ = some (.int .i64 x224000_2) := (iI BK223.out 0).trans rfl; have hcz40_1 : w35.cell? ⟨gb223, 1, none⟩ = some (.int .i64 x224001_2) := (iI BK223.out 1).trans rfl; have hfz40_0 := iH BK223.out 0; have hfz40_1 := iH BK223.out 1))
                        go_ret
                        exact ⟨by first | rfl | (simp [iR, iQ] <;> rfl) | (simp [*, iR, iQ] <;> rfl), by repeat (first | (with_reducible first | exact HB.out | apply iF | apply iD | apply iG | refine iE ?_ GE221.out | refine iE ?_ GE223.out | refine iE ?_ GE225.out) | exact HB.out)⟩
                      · rw [if_neg c34] at H
                        have c34b0 : (((iT l0_1 x32_2).f1) == x224001_2) = false := beq_eq_false_iff_ne.mpr c34
                        have c34b1 : (((iT l0_1 x32_2).f1) != x224001_2) = true := bne_iff_ne.mpr c34
                        by_cases c41 : ((iT l0_1 x32_2).f1) < 0
                        · rw [if_pos c41] at H
                          have c41b0 : decide (((iT l0_1 x32_2).f1) < 0) = true := decide_eq_true c41
                          clear c41
                          obtain rfl := Option.some.inj H
                          have p224 : 0 ≤ (x32_2 : Int) := of_decide_eq_true asm_
                          have q224 : x32_2 < (l0_1.length : Int) := of_decide_eq_true asm_
                          obtain ⟨ad224, e224, hx224_0, hx224_1⟩ := jK HR0_1.out x32_2 p224 q224
                          cases e224
                          replace hx224_0 := (HB.out.cell (World.block_lt_of_cell? w _ hx224_0)).trans hx224_0
                          replace hx224_1 := (HB.out.cell (World.block_lt_of_cell? w _ hx224_1)).trans hx224_1
                          replace p224 := eq_true p224
                          replace q224 := eq_true q224
                          go_wp2_with (first | ((with_reducible refine jC (N := 9) rfl ?_); (try (refine iW (by rfl) ?_; dsimp only)); refine jA ?hg (N := 9) ?hd (cs := #[.int .i64 0, .int .i64 0]) (t := 60) ?hr ?_; (case hd => rfl); (case hg => rfl); (case hr => first | (go_simp; done) | (go_simp; rfl)); intro gb225 hg w42 hbox hb; have n0_ := iC.mk (iP (g := gb221) (o := .cells #[.int .u32 a0_0, .slice (some ad224) l0_1.length c0_1] 42 (0, 0)) (bk_ BK221.out) hb); have n1_ := iC.mk (iP (g := gb223) (o := .cells #[.int .i64 x224000_2, .int .i64 x224001_2] 60 (0, 0)) (bk_ BK223.out) hb); have n2_ := iC.mk (iK (by repeat (first | (with_reducible first | exact HB.out | apply iF | apply iD | apply iG | refine iE ?_ GE221.out | refine iE ?_ GE223.out) | exact HB.out)) hb); have n3_ := iC.mk (hbox); have n4_ := iC.mk ((by rw [hg]; exact (iJ (by repeat (first | (with_reducible first | exact HB.out | apply iF | apply iD | apply iG | refine iE ?_ GE221.out | refine iE ?_ GE223.out) | exact HB.out))) : w.heap.size ≤ gb225)); have n5_ := iC.mk ((by rw [hg]; exact (iJ (by repeat (first | (with_reducible first | exact HB.out | apply iF | apply iD | apply iG | refine iE ?_ GE221.out | refine iE ?_ GE223.out) | exact HB.out))) : w.heap.size ≤ gb225)); have n6_ := iC.mk ((by rw [hg]; exact Nat.ne_of_lt (jE (g := gb221) (o := .cells #[.int .u32 a0_0, .slice (some ad224) l0_1.length c0_1] 42 (0, 0)) (bk_ BK221.out)) : gb221 ≠ gb225)); have n7_ := iC.mk ((by rw [hg]; exact Nat.ne_of_gt (jE (g := gb221) (o := .cells #[.int .u32 a0_0, .slice (some ad224) l0_1.length c0_1] 42 (0, 0)) (bk_ BK221.out)) : gb225 ≠ gb221)); have n8_ := iC.mk ((by rw [hg]; exact Nat.ne_of_lt (jE (g := gb223) (o := .cells #[.int .i64 x224000_2, .int .i64 x224001_2] 60 (0, 0)) (bk_ BK223.out)) : gb223 ≠ gb225)); have n9_ := iC.mk ((by rw [hg]; exact Nat.ne_of_gt (jE (g := gb223) (o := .cells #[.int .i64 x224000_2, .int .i64 x224001_2] 60 (0, 0)) (bk_ BK223.out)) : gb225 ≠ gb223)); clear BK221; clear BK223; clear HB; have BK221 := n0_; have BK223 := n1_; have HB := n2_; have BK225 := n3_; have GW225 := n4_; have GE225 := n5_; have NB221_225 := n6_; have NB225_221 := n7_; have NB223_225 := n8_; have NB225_223 := n9_; clear n0_ n1_ n2_ n3_ n4_ n5_ n6_ n7_ n8_ n9_; clear hb hbox hg; have hnb43 := NB225_221.out; have hnc43 := NB221_225.out; have hnb44 := NB225_223.out; have hnc44 := NB223_225.out; have hcz45_0 : w42.cell? ⟨gb225, 0, none⟩ = some (.int .i64 0) := (iI BK225.out 0).trans rfl; have hcz45_1 : w42.cell? ⟨gb225, 1, none⟩ = some (.int .i64 0) := (iI BK225.out 1).trans rfl; have hfz45_0 := iH BK225.out 0; have hfz45_1 := iH BK225.out 1; have hnb46 := NB223_221.out; have hnc46 := NB221_223.out; have hcz47_0 : w42.cell? ⟨gb223, 0, none⟩ = some (.int .i64 x224000_2) := (iI BK223.out 0).trans rfl; have hcz47_1 : w42.cell? ⟨gb223, 1, none⟩ = some (.int .i64 x224001_2) := (iI BK223.out 1).trans rfl; have hfz47_0 := iH BK223.out 0; have hfz47_1 := iH BK223.out 1))
                          go_ret
                          exact ⟨by first | rfl | (simp [iR, iQ] <;> rfl) | (simp [*, iR, iQ] <;> rfl), by repeat (first | (with_reducible first | exact HB.out | apply iF | apply iD | apply iG | refine iE ?_ GE221.out | refine iE ?_ GE223.out | refine iE ?_ GE225.out) | exact HB.out)⟩
                        · rw [if_neg c41] at H
                          have c41b0 : decide (((iT l0_1 x32_2).f1) < 0) = false := decide_eq_false c41
                          clear c41
                          obtain ⟨ji48, hji48⟩ : ∃ j_ : Int, (mn a2 6) = j_ := ⟨_, rfl⟩
                          replace H : (if ((iT l0_1 x32_2).f1) ≥ (ji48) then (some false) else (spans_Sound.l0 k2 a1 a2 l0_1 (l0_1.length : Int) (wrap64 (x32_2 + 1)) ((iT l0_1 x32_2).f0) ((iT l0_1 x32_2).f1))) = some r := by first | (rw [hji48] at H; exact H) | (simp only [hji48] at H ⊢; exact H)
                          have hji48_ : (if 6 < a2 then 6 else a2) = ji48 := hji48
                          by_cases c49 : ((iT l0_1 x32_2).f1) ≥ (ji48)
                          · rw [if_pos c49] at H
                            have c49b0 : decide ((ji48) ≤ ((iT l0_1 x32_2).f1)) = true := decide_eq_true c49
                            clear c49
                            obtain rfl := Option.some.inj H
                            have p224 : 0 ≤ (x32_2 : Int) := of_decide_eq_true asm_
                            have q224 : x32_2 < (l0_1.length : Int) := of_decide_eq_true asm_
                            obtain ⟨ad224, e224, hx224_0, hx224_1⟩ := jK HR0_1.out x32_2 p224 q224
                            cases e224
                            replace hx224_0 := (HB.out.cell (World.block_lt_of_cell? w _ hx224_0)).trans hx224_0
                            replace hx224_1 := (HB.out.cell (World.block_lt_of_cell? w _ hx224_1)).trans hx224_1
                            replace p224 := eq_true p224
                            replace q224 := eq_true q224
                            go_wp2_with (first | ((with_reducible refine jC (N := 9) rfl ?_); (try (refine iW (by rfl) ?_; dsimp only)); refine jA ?hg (N := 9) ?hd (cs := #[.int .i64 0, .int .i64 0]) (t := 60) ?hr ?_; (case hd => rfl); (case hg => rfl); (case hr => first | (go_simp; done) | (go_simp; rfl)); intro gb225 hg w50 hbox hb; have n0_ := iC.mk (iP (g := gb221) (o := .cells #[.int .u32 a0_0, .slice (some ad224) l0_1.length c0_1] 42 (0, 0)) (bk_ BK221.out) hb); have n1_ := iC.mk (iP (g := gb223) (o := .cells #[.int .i64 x224000_2, .int .i64 x224001_2] 60 (0, 0)) (bk_ BK223.out) hb); have n2_ := iC.mk (iK (by repeat (first | (with_reducible first | exact HB.out | apply iF | apply iD | apply iG | refine iE ?_ GE221.out | refine iE ?_ GE223.out) | exact HB.out)) hb); have n3_ := iC.mk (hbox); have n4_ := iC.mk ((by rw [hg]; exact (iJ (by repeat (first | (with_reducible first | exact HB.out | apply iF | apply iD | apply iG | refine iE ?_ GE221.out | refine iE ?_ GE223.out) | exact HB.out))) : w.heap.size ≤ gb225)); have n5_ := iC.mk ((by rw [hg]; exact (iJ (by repeat (first | (with_reducible first | exact HB.out | apply iF | apply iD | apply iG | refine iE ?_ GE221.out | refine iE ?_ GE223.out) | exact HB.out))) : w.heap.size ≤ gb225)); have n6_ := iC.mk ((by rw [hg]; exact Nat.ne_of_lt (jE (g := gb221) (o := .cells #[.int .u32 a0_0, .slice (some ad224) l0_1.length c0_1] 42 (0, 0)) (bk_ BK221.out)) : gb221 ≠ gb225)); have n7_ := iC.mk ((by rw [hg]; exact Nat.ne_of_gt (jE (g := gb221) (o := .cells #[.int .u32 a0_0, .slice (some ad224) l0_1.length c0_1] 42 (0, 0)) (bk_ BK221.out)) : gb225 ≠ gb221)); have n8_ := iC.mk ((by rw [hg]; exact Nat.ne_of_lt (jE (g := gb223) (o := .cells #[.int .i64 x224000_2, .int .i64 x224001_2] 60 (0, 0)) (bk_ BK223.out)) : gb223 ≠ gb225)); have n9_ := iC.mk ((by rw [hg]; exact Nat.ne_of_gt (jE (g := gb223) (o := .cells #[.int .i64 x224000_2, .int .i64 x224001_2] 60 (0, 0)) (bk_ BK223.out)) : gb225 ≠ gb223)); clear BK221; clear BK223; clear HB; have BK221 := n0_; have BK223 := n1_; have HB := n2_; have BK225 := n3_; have GW225 := n4_; have GE225 := n5_; have NB221_225 := n6_; have NB225_221 := n7_; have NB223_225 := n8_; have NB225_223 := n9_; clear n0_ n1_ n2_ n3_ n4_ n5_ n6_ n7_ n8_ n9_; clear hb hbox hg; have hnb51 := NB225_221.out; have hnc51 := NB221_225.out; have hnb52 := NB225_223.out; have hnc52 := NB223_225.out; have hcz53_0 : w50.cell? ⟨gb225, 0, none⟩ = some (.int .i64 0) := (iI BK225.out 0).trans rfl; have hcz53_1 : w50.cell? ⟨gb225, 1, none⟩ = some (.int .i64 0) := (iI BK225.out 1).trans rfl; have hfz53_0 := iH BK225.out 0; have hfz53_1 := iH BK225.out 1; have hnb54 := NB223_221.out; have hnc54 := NB221_223.out; have hcz55_0 : w50.cell? ⟨gb223, 0, none⟩ = some (.int .i64 x224000_2) := (iI BK223.out 0).trans rfl; have hcz55_1 : w50.cell? ⟨gb223, 1, none⟩ = some (.int .i64 x224001_2) := (iI BK223.out 1).trans rfl; have hfz55_0 := iH BK223.out 0; have hfz55_1 := iH BK223.out 1))
                            go_ret
                            exact ⟨by first | rfl | (simp [iR, iQ] <;> rfl) | (simp only [← hji48]; first | rfl | (simp [iR, iQ] <;> rfl)) | (simp [*, iR, iQ] <;> rfl), by repeat (first | (with_reducible first | exact HB.out | apply iF | apply iD | apply iG | refine iE ?_ GE221.out | refine iE ?_ GE223.out | refine iE ?_ GE225.out) | exact HB.out)⟩
                          · rw [if_neg c49] at H
                            have c49b0 : decide ((ji48) ≤ ((iT l0_1 x32_2).f1)) = false := decide_eq_false c49
                            clear c49
                            have H' := iC.mk H
                            clear H
                            have p224 : 0 ≤ (x32_2 : Int) := of_decide_eq_true asm_
                            have q224 : x32_2 < (l0_1.length : Int) := of_decide_eq_true asm_
                            obtain ⟨ad224, e224, hx224_0, hx224_1⟩ := jK HR0_1.out x32_2 p224 q224
                            cases e224
                            replace hx224_0 := (HB.out.cell (World.block_lt_of_cell? w _ hx224_0)).trans hx224_0
                            replace hx224_1 := (HB.out.cell (World.block_lt_of_cell? w _ hx224_1)).trans hx224_1
                            replace p224 := eq_true p224
                            replace q224 := eq_true q224
                            go_wp2_with (first | ((with_reducible refine jC (N := 9) rfl ?_); (try (refine iW (by rfl) ?_; dsimp only)); refine jA ?hg (N := 9) ?hd (cs := #[.int .i64 0, .int .i64 0]) (t := 60) ?hr ?_; (case hd => rfl); (case hg => rfl); (case hr => first | (go_simp; done) | (go_simp; rfl)); intro gb225 hg w56 hbox hb; have n0_ := iC.mk (iP (g := gb221) (o := .cells #[.int .u32 a0_0, .slice (some ad224) l0_1.length c0_1] 42 (0, 0)) (bk_ BK221.out) hb); have n1_ := iC.mk (iP (g := gb223) (o := .cells #[.int .i64 x224000_2, .int .i64 x224001_2] 60 (0, 0)) (bk_ BK223.out) hb); have n2_ := iC.mk (iK (by repeat (first | (with_reducible first | exact HB.out | apply iF | apply iD | apply iG | refine iE ?_ GE221.out | refine iE ?_ GE223.out) | exact HB.out)) hb); have n3_ := iC.mk (hbox); have n4_ := iC.mk ((by rw [hg]; exact (iJ (by repeat (first | (with_reducible first | exact HB.out | apply iF | apply iD | apply iG | refine iE ?_ GE221.out | refine iE ?_ GE223.out) | exact HB.out))) : w.heap.size ≤ gb225)); have n5_ := iC.mk ((by rw [hg]; exact (iJ (by repeat (first | (with_reducible first | exact HB.out | apply iF | apply iD | apply iG | refine iE ?_ GE221.out | refine iE ?_ GE223.out) | exact HB.out))) : w.heap.size ≤ gb225)); have n6_ := iC.mk ((by rw [hg]; exact Nat.ne_of_lt (jE (g := gb221) (o := .cells #[.int .u32 a0_0, .slice (some ad224) l0_1.length c0_1] 42 (0, 0)) (bk_ BK221.out)) : gb221 ≠ gb225)); have n7_ := iC.mk ((by rw [hg]; exact Nat.ne_of_gt (jE (g := gb221) (o := .cells #[.int .u32 a0_0, .slice (some ad224) l0_1.length c0_1] 42 (0, 0)) (bk_ BK221.out)) : gb225 ≠ gb221)); have n8_ := iC.mk ((by rw [hg]; exact Nat.ne_of_lt (jE (g := gb223) (o := .cells #[.int .i64 x224000_2, .int .i64 x224001_2] 60 (0, 0)) (bk_ BK223.out)) : gb223 ≠ gb225)); have n9_ := iC.mk ((by rw [hg]; exact Nat.ne_of_gt (jE (g := gb223) (o := .cells #[.int .i64 x224000_2, .int .i64 x224001_2] 60 (0, 0)) (bk_ BK223.out)) : gb225 ≠ gb223)); clear BK221; clear BK223; clear HB; have BK221 := n0_; have BK223 := n1_; have HB := n2_; have BK225 := n3_; have GW225 := n4_; have GE225 := n5_; have NB221_225 := n6_; have NB225_221 := n7_; have NB223_225 := n8_; have NB225_223 := n9_; clear n0_ n1_ n2_ n3_ n4_ n5_ n6_ n7_ n8_ n9_; clear hb hbox hg; have hnb57 := NB225_221.out; have hnc57 := NB221_225.out; have hnb58 := NB225_223.out; have hnc58 := NB223_225.out; have hcz59_0 : w56.cell? ⟨gb225, 0, none⟩ = some (.int .i64 0) := (iI BK225.out 0).trans rfl; have hcz59_1 : w56.cell? ⟨gb225, 1, none⟩ = some (.int .i64 0) := (iI BK225.out 1).trans rfl; have hfz59_0 := iH BK225.out 0; have hfz59_1 := iH BK225.out 1; have hnb60 := NB223_221.out; have hnc60 := NB221_223.out; have hcz61_0 : w56.cell? ⟨gb223, 0, none⟩ = some (.int .i64 x224000_2) := (iI BK223.out 0).trans rfl; have hcz61_1 : w56.cell? ⟨gb223, 1, none⟩ = some (.int .i64 x224001_2) := (iI BK223.out 1).trans rfl; have hfz61_0 := iH BK223.out 0; have hfz61_1 := iH BK223.out 1))
                            go_roundg k2
                            case measure => have := HJ3.out; have := HK2.out; omega
                            case rel => exact ⟨(wrap64 (x32_2 + 1)), ((iT l0_1 x32_2).f0), ((iT l0_1 x32_2).f1), (by first | rfl | (simp; done) | (simp [*]; done)), H', ⟨by have := HJ3.out; have := HK2.out; omega⟩, ⟨by (with_reducible repeat (first | refine iM ?_ _ | refine iO ?_ | refine iL ?_ _)); refine jH ?_ NB221_223.out _; (with_reducible repeat (first | refine iM ?_ _ | refine iO ?_ | refine iL ?_ _)); refine jH ?_ NB221_223.out _; (with_reducible repeat (first | refine iM ?_ _ | refine iO ?_ | refine iL ?_ _)); refine jH ?_ NB221_225.out _; (with_reducible repeat (first | refine iM ?_ _ | refine iO ?_ | refine iL ?_ _)); refine jH ?_ NB221_225.out _; (with_reducible repeat (first | refine iM ?_ _ | refine iO ?_ | refine iL ?_ _)); exact BK221.out⟩, ⟨by (with_reducible repeat (first | refine iM ?_ _ | refine iO ?_ | refine iL ?_ _)); refine jD (cs := #[.int .i64 ((iT l0_1 x32_2).f0), .int .i64 x224001_2]) ?_ 1 _ rfl; (with_reducible repeat (first | refine iM ?_ _ | refine iO ?_ | refine iL ?_ _)); refine jD (cs := #[.int .i64 x224000_2, .int .i64 x224001_2]) ?_ 0 _ rfl; (with_reducible repeat (first | refine iM ?_ _ | refine iO ?_ | refine iL ?_ _)); refine jH ?_ NB223_225.out _; (with_reducible repeat (first | refine iM ?_ _ | refine iO ?_ | refine iL ?_ _)); refine jH ?_ NB223_225.out _; (with_reducible repeat (first | refine iM ?_ _ | refine iO ?_ | refine iL ?_ _)); exact BK223.out⟩, ⟨by repeat (first | (with_reducible first | exact HB.out | apply iF | apply iD | apply iG | refine iE ?_ GE221.out | refine iE ?_ GE223.out | refine iE ?_ GE225.out) | exact HB.out)⟩⟩
                · rw [if_neg c19] at H
                  exact absurd H (by simp)
              · rw [if_neg c18] at H
                exact absurd H (by simp)
            · rw [if_neg c17] at H
              have c17b0 : decide (x32_2 < (l0_1.length : Int)) = false := decide_eq_false c17
              clear c17
              obtain rfl := Option.some.inj H
              go_wp2
              go_ret
              exact ⟨by first | rfl | (simp [iR, iQ] <;> rfl) | (simp [*, iR, iQ] <;> rfl), by repeat (first | (with_reducible first | exact HB.out | apply iF | apply iD | apply iG | refine iE ?_ GE221.out | refine iE ?_ GE223.out) | exact HB.out)⟩
end Go.Proofs.Ytbpdejbkfpkphaa.K
end

section
namespace Go.Proofs.Ytbpdejbkfpkphaa.K
open Go.RowKit Go.Proofs.YtbpdejbkfpkphaaW.PrintWords Go.Proofs.YtbpdejbkfpkphaaW.PrintLast Go.Proofs.YtbpdejbkfpkphaaW.PrintMore
attribute [local go_sem] jU jT jZ jY jO jP jW jV
def slices_Equal_int_int.l0 : Nat → List Int → List Int → Int → Int → Option (Bool)
  | 0, _, _, _, _ => none
  | k + 1, x0, x1, x12, x13 => if x13 < x12 then (if 0 ≤ x13 then (if x13 < (x0.length : Int) then (if x13 < (x1.length : Int) then (if (rd x0 x13) = (rd x1 x13) then (slices_Equal_int_int.l0 k x0 x1 x12 (wrap64 (x13 + 1))) else (some false)) else (none)) else (none)) else (none)) else (some true)
def slices_Equal_int_int.f (k : Nat) (l0 : List Int) (l1 : List Int) : Option (Bool) := if (l0.length : Int) = (l1.length : Int) then (slices_Equal_int_int.l0 k l0 l1 (l0.length : Int) 0) else (some false)
theorem slices_Equal_int_int.mono_l : ∀ k, (∀ y0 y1 y2 y3, LeO (slices_Equal_int_int.l0 k y0 y1 y2 y3) (slices_Equal_int_int.l0 (k + 1) y0 y1 y2 y3))
  | 0 => fun _ _ _ _ r h => by simp [slices_Equal_int_int.l0] at h
  | k + 1 => by
    have ih0 := slices_Equal_int_int.mono_l k
    · intro y0 y1 y2 y3
      unfold slices_Equal_int_int.l0
      repeat' first
      | (with_reducible exact ih0 _ _ _ _)
      | (with_reducible exact LeO.refl _)
      | (with_reducible exact LeO.none _)
      | (with_reducible refine LeO.ite ?_ ?_)
      | (with_reducible refine LeO.bind ?_ (fun _ => ?_))
      | exact ih0 _ _ _ _
      | exact LeO.none _
      | refine LeO.ite ?_ ?_
      | refine LeO.bind ?_ (fun _ => ?_)
theorem slices_Equal_int_int.mono : ∀ a0 a1 k, LeO (slices_Equal_int_int.f k a0 a1) (slices_Equal_int_int.f (k + 1) a0 a1) := by
  intro a0 a1 k
  have ih0 := slices_Equal_int_int.mono_l k
  unfold slices_Equal_int_int.f
  repeat' first
      | (with_reducible exact ih0 _ _ _ _)
      | (with_reducible exact LeO.refl _)
      | (with_reducible exact LeO.none _)
      | (with_reducible refine LeO.ite ?_ ?_)
      | (with_reducible refine LeO.bind ?_ (fun _ => ?_))
      | exact ih0 _ _ _ _
      | exact LeO.none _
      | refine LeO.ite ?_ ?_
      | refine LeO.bind ?_ (fun _ => ?_)
set_option maxHeartbeats 8000000 in
set_option maxRecDepth 100000 in
theorem slices_Equal_int_int.calls (k : Nat) (A0 : Option Addr) (c0 : Nat) (l0 : List Int) (A1 : Option Addr) (c1 : Nat) (l1 : List Int) (r : Bool) (w : World) (hr0 : Kd.C (Kd.int .i64) w A0 l0.length l0) (hc0 : l0.length ≤ c0) (hr1 : Kd.C (Kd.int .i64) w A1 l1.length l1) (hc1 : l1.length ≤ c1) (h : slices_Equal_int_int.f k l0 l1 = some r) :
    Calls Try.prog 65 #[.slice A0 l0.length c0, .slice A1 l1.length c1] w fun e w' => e = .returned (.bool r) ∧ jS w w' := by
  have HR0 := iC.mk hr0
  have HC0 := iC.mk hc0
  clear hr0 hc0
  have HR1 := iC.mk hr1
  have HC1 := iC.mk hc1
  clear hr1 hc1
  have H : (if (l0.length : Int) = (l1.length : Int) then (slices_Equal_int_int.l0 k l0 l1 (l0.length : Int) 0) else (some false)) = some r := h
  clear h
  by_cases c3 : (l0.length : Int) = (l1.length : Int)
  · rw [if_pos c3] at H
    have c3b0 : ((l0.length : Int) == (l1.length : Int)) = true := beq_iff_eq.mpr c3
    have c3b1 : ((l0.length : Int) != (l1.length : Int)) = false := bne_eq_false_iff_eq.mpr c3
    have c3b2 : (l0.length == l1.length) = true := by first | simpa using c3 | (simp at c3 ⊢; omega)
    clear c3
    have H' := iC.mk H
    clear H
    go_enter Try.func65, Try.ntmps65
    go_wp2
    repeat (go_quiet (fail); try go_wp2)
    go_loopg [13] k (fun kq v13 w' => ∃ (x13_1 : Int), v13 = .int .i64 x13_1 ∧ iC (slices_Equal_int_int.l0 kq l0 l1 (l0.length : Int) x13_1 = some r) ∧ iC (kq ≤ k) ∧ jS w w')
    case atStart => exact ⟨(0), (by first | rfl | (simp; done) | (simp [*]; done)), H', ⟨Nat.le_refl _⟩, by repeat (first | exact jS.refl _ | apply jS.step)⟩
    case round =>
      clear H'
      try clear c1
      try clear p2
      try clear c3
      try clear c3b0
      try clear c3b1
      try clear c3b2
      obtain ⟨x13_1, rfl, HA, HK1, ⟨m1, rfl⟩⟩ := hrel
      cases gk with
      | zero => exact absurd HA.out (by simp [slices_Equal_int_int.l0])
      | succ k1 =>
        have H := HA.out
        clear HA
        simp only [slices_Equal_int_int.l0] at H
        by_cases c4 : x13_1 < (l0.length : Int)
        · rw [if_pos c4] at H
          have c4b0 : decide (x13_1 < (l0.length : Int)) = true := decide_eq_true c4
          clear c4
          by_cases c5 : 0 ≤ x13_1
          · rw [if_pos c5] at H
            have c5b0 : decide (0 ≤ x13_1) = true := decide_eq_true c5
            clear c5
            by_cases c6 : x13_1 < (l0.length : Int)
            · rw [if_pos c6] at H
              have c6b0 : decide (x13_1 < (l0.length : Int)) = true := decide_eq_true c6
              clear c6
              by_cases c7 : x13_1 < (l1.length : Int)
              · rw [if_pos c7] at H
                have c7b0 : decide (x13_1 < (l1.length : Int)) = true := decide_eq_true c7
                clear c7
                by_cases c8 : (rd l0 x13_1) = (rd l1 x13_1)
                · rw [if_pos c8] at H
                  have c8b0 : ((rd l0 x13_1) == (rd l1 x13_1)) = true := beq_iff_eq.mpr c8
                  have c8b1 : ((rd l0 x13_1) != (rd l1 x13_1)) = false := bne_eq_false_iff_eq.mpr c8
                  clear c8
                  have H' := iC.mk H
                  clear H
                  have p226 : 0 ≤ (x13_1 : Int) := of_decide_eq_true asm_
                  have q226 : x13_1 < (l0.length : Int) := of_decide_eq_true asm_
                  obtain ⟨ad226, e226, hx226_0⟩ := Kd.at_int HR0.out x13_1 p226 q226
                  cases e226
                  replace p226 := eq_true p226
                  replace q226 := eq_true q226
                  have p227 : 0 ≤ (x13_1 : Int) := of_decide_eq_true asm_
                  have q227 : x13_1 < (l1.length : Int) := of_decide_eq_true asm_
                  obtain ⟨ad227, e227, hx227_0⟩ := Kd.at_int HR1.out x13_1 p227 q227
                  cases e227
                  replace p227 := eq_true p227
                  replace q227 := eq_true q227
                  go_wp2
                  repeat (go_quiet (fail); try go_wp2)
                  go_roundg k1
                  case measure => have := HK1.out; omega
                  case rel => exact ⟨(wrap64 (x13_1 + 1)), (by first | rfl | (simp; done) | (simp [*]; done)), H', ⟨by have := HK1.out; omega⟩, by repeat (first | exact jS.refl _ | apply jS.step)⟩
                · rw [if_neg c8] at H
                  have c8b0 : ((rd l0 x13_1) == (rd l1 x13_1)) = false := beq_eq_false_iff_ne.mpr c8
                  have c8b1 : ((rd l0 x13_1) != (rd l1 x13_1)) = true := bne_iff_ne.mpr c8
                  obtain rfl := Option.some.inj H
                  have p226 : 0 ≤ (x13_1 : Int) := of_decide_eq_true asm_
                  have q226 : x13_1 < (l0.length : Int) := of_decide_eq_true asm_
                  obtain ⟨ad226, e226, hx226_0⟩ := Kd.at_int HR0.out x13_1 p226 q226
                  cases e226
                  replace p226 := eq_true p226
                  replace q226 := eq_true q226
                  have p227 : 0 ≤ (x13_1 : Int) := of_decide_eq_true asm_
                  have q227 : x13_1 < (l1.length : Int) := of_decide_eq_true asm_
                  obtain ⟨ad227, e227, hx227_0⟩ := Kd.at_int HR1.out x13_1 p227 q227
                  cases e227
                  replace p227 := eq_true p227
                  replace q227 := eq_true q227
                  go_wp2
                  repeat (go_quiet (fail); try go_wp2)
                  go_ret
                  exact ⟨by first | rfl | (simp; done) | (simp [*]; done), by repeat (first | exact jS.refl _ | apply jS.step)⟩
              · rw [if_neg c7] at H
                exact absurd H (by simp)
            · rw [if_neg c6] at H
              exact absurd H (by simp)
          · rw [if_neg c5] at H
            exact absurd H (by simp)
        · rw [if_neg c4] at H
          have c4b0 : decide (x13_1 < (l0.length : Int)) = false := decide_eq_false c4
          clear c4
          obtain rfl := Option.some.inj H
          go_wp2
          repeat (go_quiet (fail); try go_wp2)
          go_ret
          exact ⟨by first | rfl | (simp; done) | (simp [*]; done), by repeat (first | exact jS.refl _ | apply jS.step)⟩
  · rw [if_neg c3] at H
    have c3b0 : ((l0.length : Int) == (l1.length : Int)) = false := beq_eq_false_iff_ne.mpr c3
    have c3b1 : ((l0.length : Int) != (l1.length : Int)) = true := bne_iff_ne.mpr c3
    have c3b2 : (l0.length == l1.length) = false := by first | simpa using c3 | (simp at c3 ⊢; omega)
    obtain rfl := Option.some.inj H
    go_enter Try.func65, Try.ntmps65
    go_wp2
    repeat (go_quiet (fail); try go_wp2)
    go_ret
    exact ⟨by first | rfl | (simp; done) | (simp [*]; done), by repeat (first | exact jS.refl _ | apply jS.step)⟩
end Go.Proofs.Ytbpdejbkfpkphaa.K
end

section
namespace Go.Proofs.Ytbpdejbkfpkphaa.K
open Go Go.RowKit Go.Proofs.YtbpdejbkfpkphaaW.PrintWords Go.Proofs.YtbpdejbkfpkphaaW.PrintLast Go.Proofs.YtbpdejbkfpkphaaW.PrintMore Go.Proofs.Ytbpdejbkfpkphaa.My
attribute [local go_sem] Oper.semAt_some
abbrev TSp := S60
abbrev rdSp (l : List TSp) (i : Int) : TSp := iT l i
/-- What has come behind k rounds: the last ones, the last one first. -/
def bkU (l : List TSp) (k : Nat) : List (Int × TSp) := (List.range k).map fun (j : Nat) => ((l.length : Int) - 1 - j, rdSp l ((l.length : Int) - 1 - j))
theorem rC (l : List TSp) (k : Nat) : bkU l (k + 1) = bkU l k ++ [((l.length : Int) - 1 - k, rdSp l ((l.length : Int) - 1 - k))] := by simp [bkU, List.range_succ]
theorem rH (l : List TSp) (k : Nat) : (bkU l k).length = k := by simp [bkU]
def yJ (x : Int × TSp) : Array Value := #[.int .i64 x.1, .agg #[.int .i64 x.2.f0, .int .i64 x.2.f1]]
/-- What a round that goes on keeps: what lay below n0, and the iterator's own box. -/
def KpB (n0 B : Nat) (W W' : World) : Prop := Below n0 W W' ∧ W'.heap[B]? = W.heap[B]?
set_option maxRecDepth 100000 in
set_option maxHeartbeats 4000000 in
theorem rP (n : Nat) (hn : 1 ≤ n) (B e : Nat) (fz : Nat × Nat) (A : Option Addr) (c : Nat) (l : List TSp) (wS w0 : World) (hr : Kd.C k60 wS A l.length l) (hs : (l.length : Int) ≤ 8796093022208) (hwS : Below wS.heap.size wS w0)
    (hB : w0.heap[B]? = some (.cells #[.slice A l.length c] e fz)) :
    SeqStopsK Fence.wide n Try.prog 87 #[.pointer (some ⟨B, 0, none⟩)] yJ (KpB wS.heap.size B) (fun xs => xs = bkU l l.length) (fun pre => ∃ k, k ≤ l.length ∧ pre = bkU l k) l.length w0 := by
  intro lp J Jx W hW _ _ hY h0
  have HL := iC.mk hr
  clear hr
  have hBW := mV hW hB
  refine callsIn_of_wp Try.func87 rfl trivial ?_ rfl
  simp only [Try.ntmps87, List.size_toArray, List.length_cons, List.length_nil, Nat.reduceAdd, Nat.reduceSub, Array.replicate_succ, Array.replicate_zero, List.push_toArray, List.append_toArray, List.nil_append, List.cons_append]
  have hc0 : W.cell? ⟨B, 0, none⟩ = some (.slice A l.length c) := by simp [World.cell?, hBW]
  gi_wp2
  gi_loopw [3] (fun p wr => ∃ k : Nat, k ≤ l.length ∧ p = .int .i64 ((l.length : Int) - 1 - k) ∧ iC (J (bkU l k) wr) ∧ iC (Below wS.heap.size wS wr) ∧ wr.heap[B]? = some (.cells #[.slice A l.length c] e fz)) (fun p _ => (intOf p + 1).toNat)
  case atStart => exact ⟨0, Nat.zero_le _, by simp, ⟨h0⟩, ⟨hwS.trans (hW.mono hwS.size)⟩, hBW⟩
  case round =>
    obtain ⟨k, hk, rfl, HJ, HB, hBr⟩ := hrel
    have hcell : wr.cell? ⟨B, 0, none⟩ = some (.slice A l.length c) := by simp [World.cell?, hBr]
    by_cases hlt : k < l.length
    · obtain ⟨i, hi⟩ : ∃ i : Int, i = (l.length : Int) - 1 - k := ⟨_, rfl⟩
      have hi0 : 0 ≤ i := by omega
      have hi1 : i < (l.length : Int) := by omega
      obtain ⟨ad, rfl, h1, h2⟩ := jK (Kd.C_below HL.out HB.out) i hi0 (by omega)
      obtain ⟨x, hx⟩ : ∃ x, x = rdSp l i := ⟨_, rfl⟩
      have hx' : iT l i = x := hx.symm
      rw [hx'] at h1 h2
      have HX := iC.mk hx
      obtain ⟨fn, tmps, assign, body, hy, hR⟩ := hY _ (i, x) wr HJ.out (by rw [rH]; exact hlt)
      have HI := iC.mk hi
      rw [← hi]
      clear hx hx' hi
      dsimp only [yJ] at hy
      gi_wp2
      refine hR.mono ?_
      rintro e W3 (⟨rfl, hJ3, hk3⟩ | ⟨rfl, hJx3⟩)
      · have HJ3 := iC.mk hJ3
        have HK3 := iC.mk hk3
        clear hJ3 hk3 hy hR h1 h2
        gi_wp2
        go_roundw
        case rel => exact ⟨k + 1, by omega, by have := HI.out; congr 1; omega, ⟨by rw [rC, ← HI.out, ← HX.out]; exact HJ3.out⟩, ⟨HB.out.trans HK3.out.1⟩, HK3.out.2.trans hBr⟩
        case measure => simp [intOf]; omega
      · have HJx := iC.mk hJx3
        clear hJx3 hy hR h1 h2
        gi_wp2
        refine bodyPost_ret (results_none rfl _ _ _) rfl ?_
        exact ⟨⟨_, rfl⟩, .inr ⟨_, ⟨k + 1, by omega, rfl⟩, by rw [rC, ← HI.out, ← HX.out]; exact HJx.out⟩⟩
    · obtain rfl : k = l.length := by omega
      gi_wp2
      go_end0
      exact ⟨⟨_, rfl⟩, .inl ⟨_, rfl, HJ.out⟩⟩
set_option maxHeartbeats 1000000 in
/-- slices.Backward: the slice is boxed, the function captures the box. -/
theorem xO (A : Option Addr) (len c : Nat) (w : World) :
    Calls Try.prog 68 #[.slice A len c] w fun e w' => e = .returned (.func (.func 87) #[] #[.pointer (some ⟨w.heap.size, 0, none⟩)]) ∧ w' = w.alloc (.cells #[.slice A len c] 40) := by
  go_enter Try.func68, Try.ntmps68
  go_wp2
  go_ret
  exact ⟨rfl, rfl⟩
end Go.Proofs.Ytbpdejbkfpkphaa.K
end

section
namespace Go.Proofs.Ytbpdejbkfpkphaa.K
open Go Go.RowKit Go.Proofs.YtbpdejbkfpkphaaW.PrintWords Go.Proofs.YtbpdejbkfpkphaaW.PrintLast Go.Proofs.YtbpdejbkfpkphaaW.PrintMore Go.Proofs.Ytbpdejbkfpkphaa.My
attribute [local go_sem] Oper.semAt_some
/-- A call of a function value that captures nothing, in a drawn region. -/
theorem yB {P : Program} {ops : Array Oper} {Q : Exit → Act → World → Prop} {oi : Oper} {N : Option Tmp} {a : Act} {w : World} {K : Act → World → Prop} {f : FuncId} {fn : Func} {o : Operand} {os : Array Operand} {ts : Array TypeId} (hf : P.funcs[f]? = some fn) (hname : (fn.name == "runtime.NumGoroutine") = false) (hb : fn.body.isSome = true) (args : Array Value)
    (hw : Region.wanted oi (yielded ops a.tmps) = true) (hN : oi.dst = N) (hop : oi.op = .call { callee := .value o, args := os, argTypes := ts }) (ho : a.eval o = .func (.func f) #[] #[]) (hargs : os.map a.eval = args)
    (h : Calls P f args w fun e w' => ∃ v, e = .returned v ∧ K (a.put N v) w') : if Region.wanted oi (yielded ops a.tmps) = true then Oper.wp P oi a w K Q else K (a.put N undef) w := by
  refine call_ f args hw hN ?_ h
  have he := qB hf hname hb args w
  unfold execOp
  simp [hop, resolve, Deferred.ofValue, invoke, ho, hargs, he]
/-- The first m of xs, those side by side of one node as one. -/
def glN (xs : List TSp) : Nat → List TSp
  | 0 => []
  | m + 1 => if 0 < m ∧ (rdSp xs m).f1 = (rdSp xs ((m : Int) - 1)).f1 then glN xs m else glN xs m ++ [rdSp xs m]
abbrev W86 (w : World) (a b : TSp) : World := (w.alloc (.cells #[.int .i64 a.f0, .int .i64 a.f1] 60)).alloc (.cells #[.int .i64 b.f0, .int .i64 b.f1] 60)
theorem qY (a b : TSp) (w : World) : Calls Try.prog 86 #[.agg #[.int .i64 a.f0, .int .i64 a.f1], .agg #[.int .i64 b.f0, .int .i64 b.f1]] w fun e w' => e = .returned (.bool (decide (a.f1 = b.f1))) ∧ w' = W86 w a b := by
  go_enter Try.func86, Try.ntmps86
  go_wp2
  go_ret
  exact ⟨by simp; by_cases h : a.f1 = b.f1 <;> simp [h], rfl⟩
theorem oH (xs : List TSp) (k m : Nat) (hm : k = m + 1) (x y : TSp) (hx : x = rdSp xs k) (hy : y = rdSp xs m) : glN xs (k + 1) = if x.f1 = y.f1 then glN xs k else glN xs k ++ [x] := by
  subst hm hx hy
  simp only [glN]
  have : ((m + 1 : Nat) : Int) - 1 = (m : Int) := by omega
  rw [this]
  simp
theorem nH (xs : List TSp) (k : Nat) : rdSp xs (k : Int) = xs.getD k ⟨0, 0⟩ := rfl
theorem take_snoc (xs : List TSp) (k : Nat) (hk : k < xs.length) : xs.take (k + 1) = xs.take k ++ [rdSp xs k] := by
  rw [nH, List.getD_eq_getElem?_getD, List.getElem?_eq_getElem hk, List.take_add_one]
  simp [hk]
theorem qP (xs : List TSp) (h : 1 ≤ xs.length) : glN xs 1 = xs.take 1 := by
  rw [take_snoc xs 0 (by omega)]; simp [glN]
theorem xM (ys : List TSp) (q : Nat) (hq : q < ys.length) (x : TSp) : (ys.set q x).take (q + 1) = ys.take q ++ [x] := by
  rw [take_snoc _ _ (by simpa using hq), List.take_set_of_le (Nat.le_refl _)]
  rw [nH, List.getD_eq_getElem?_getD, List.getElem?_set_self hq]; rfl
theorem zJ (ys : List TSp) (q i : Nat) (hq : i ≠ q) (x : TSp) : rdSp (ys.set q x) i = rdSp ys i := by
  rw [nH, nH, List.getD_eq_getElem?_getD, List.getElem?_set_ne (Ne.symm hq), List.getD_eq_getElem?_getD]
abbrev RSp (w : World) (base : Nat) (ad : Addr) (n cap : Nat) (xs : List TSp) : Prop := Kd.R k60 60 w base (fun _ => True) (.slice (some ad) n cap) xs
theorem RSp.bel {w w' : World} {base n cap : Nat} {ad : Addr} {xs : List TSp} (h : RSp w base ad n cap xs) (hb : Below w.heap.size w w') : RSp w' base ad n cap xs := Kd.R_below h hb
theorem RSp.adr {w : World} {base n cap : Nat} {ad : Addr} {xs : List TSp} (h : RSp w base ad n cap xs) : ∃ g, ad = ⟨g, 0, none⟩ := Kd.R_head h
theorem oU {ad : Addr} {g : Nat} (h : ad = ⟨g, 0, none⟩) (k j : Nat) : (ad.add (k * 2)).add (j * 2) = ad.add ((k + j) * 2) := by
  have h2 : ∀ (g o i : Nat), (⟨g, o, none⟩ : Addr).add i = ⟨g, o + i, none⟩ := fun g o i => by unfold Addr.add; split <;> simp_all
  subst h; rw [h2, h2, h2]; congr 1; omega
theorem yP {ad : Addr} {g : Nat} (h : ad = ⟨g, 0, none⟩) (o : Nat) : ad.add o = ⟨g, o, none⟩ := by subst h; unfold Addr.add; split <;> simp_all
/-- The cells of a member. -/
theorem RSp.at {w : World} {base n cap : Nat} {ad : Addr} {xs : List TSp} (h : RSp w base ad n cap xs) (k : Nat) (hk : k < n) :
    w.cell? (ad.add (k * 2)) = some (.int .i64 (rdSp xs k).f0) ∧ w.cell? ⟨(ad.add (k * 2)).block, (ad.add (k * 2)).off + 1, none⟩ = some (.int .i64 (rdSp xs k).f1) := by
  have hn : n = xs.length := (Kd.R_reads' h).1
  obtain ⟨_, e1, h1, h2⟩ := jK (Kd.R_reads' h).2.2 (k : Int) (by omega) (by omega)
  cases e1
  exact ⟨h1, h2⟩
theorem RSp.len {w : World} {base n cap : Nat} {ad : Addr} {xs : List TSp} (h : RSp w base ad n cap xs) : n = xs.length := (Kd.R_reads' h).1
theorem RSp.cap {w : World} {base n cap : Nat} {ad : Addr} {xs : List TSp} (h : RSp w base ad n cap xs) : n ≤ cap := (Kd.R_reads' h).2.1
def zs (n : Nat) : List Value := (Builtin.zeroCells #[.int .i64 0, .int .i64 0] n).toList
theorem pI (n : Nat) : (zs n).length = n * 2 := by simp [zs, size_zeroCells]
theorem RSp.base {w : World} {base n cap g : Nat} {ad : Addr} {xs : List TSp} (h : RSp w base ad n cap xs) (ha : ad = ⟨g, 0, none⟩) : base ≤ g := by
  subst ha
  exact Kd.R_base h g rfl
theorem uM {w : World} {g o : Nat} {z : TSp} (h1 : w.cell? ⟨g, o, none⟩ = some (.int .i64 z.f0)) (h2 : w.cell? ⟨g, o + 1, none⟩ = some (.int .i64 z.f1)) : ∀ (j : Nat) (u : Value), ([.int .i64 z.f0, .int .i64 z.f1] : List Value)[j]? = some u → w.cell? ⟨g, o + j, none⟩ = some u
  | 0, _, h => by cases h; exact h1
  | 1, _, h => by cases h; exact h2
  | _ + 2, _, h => by cases h
/-- Every old block but g stays. -/
def Fr (g : Nat) (W W' : World) : Prop := W.heap.size ≤ W'.heap.size ∧ ∀ k, k < W.heap.size → k ≠ g → W'.heap[k]? = W.heap[k]?
theorem Fr.refl (g : Nat) (W : World) : Fr g W W := ⟨Nat.le_refl _, fun _ _ _ => rfl⟩
theorem Fr.trans {g : Nat} {A B C : World} (h : Fr g A B) (k : Fr g B C) : Fr g A C := ⟨Nat.le_trans h.1 k.1, fun j h1 h2 => (k.2 j (Nat.lt_of_lt_of_le h1 h.1) h2).trans (h.2 j h1 h2)⟩
theorem Fr.bel {g : Nat} {A B C : World} (h : Fr g A B) (hb : Below B.heap.size B C) : Fr g A C := h.trans ⟨hb.size, fun j h1 _ => hb.block j h1⟩
theorem Fr.grown {g : Nat} {A B C : World} (h : Fr g A B) (hg : B.grownBy C (some g)) : Fr g A C := h.trans ⟨hg.size, fun j h1 h2 => hg.block j h1 (fun e => h2 (by cases e; rfl))⟩
theorem Fr.cells {g : Nat} {A B : World} (h : Fr g A B) (o : Nat) (vs : List Value) : Fr g A (B.setCells g o vs) := h.trans ⟨Nat.le_of_eq (lF g vs o B).2.2.2.symm, fun j _ h2 => kW vs o j h2⟩
theorem qQ {B g : Nat} (hg : B ≤ g) : ∀ (vs : List Value) (o : Nat) (w : World), Below B w (w.setCells g o vs)
  | [], _, w => Below.refl _ w
  | v :: r, o, w => ((Below.refl B w).setCell (p := ⟨g, o, none⟩) hg v).trans (qQ hg r (o + 1) _)
/-- The row's block. -/
theorem RSp.row {w : World} {base n cap g : Nat} {xs : List TSp} (h : RSp w base ⟨g, 0, none⟩ n cap xs) : ∃ cur, w.heap[g]? = some (.cells cur 60 (0, 0)) ∧ cur.size = cap * 2 := by
  obtain ⟨_, inner, ⟨_, ho⟩, _⟩ := h
  rcases ho with ⟨he, _⟩ | ⟨g', cap', cur, he, _, hh, _, _, hs, _⟩
  · cases he
  · cases he
    exact ⟨cur, hh, hs⟩
/-- Behind a clearing of the end the front lies as it did. -/
theorem RSp.clear {w : World} {base n cap q g : Nat} {xs : List TSp} (h : RSp w base ⟨g, 0, none⟩ n cap xs) (hq : q ≤ n) (vs : List Value) (hv : q * 2 + vs.length = n * 2) : RSp (w.setCells g (q * 2) vs) base ⟨g, 0, none⟩ q cap (xs.take q) := by
  have hn := h.len
  have hc := h.cap
  obtain ⟨h0, inner, ⟨hi, ho⟩, hr⟩ := Kd.R_take h (m := q) (by omega)
  refine ⟨h0, inner, ⟨hi, ?_⟩, hr.imp_ (fun p c hp => by rw [uV hp]; exact kS _ _ _ p)⟩
  rcases ho with ⟨he, _⟩ | ⟨g', cap', cur, he, h1, hh, h2, h3, hs, ht⟩
  · cases he
  · simp only [Value.slice.injEq, Option.some.injEq, Addr.mk.injEq] at he
    obtain ⟨⟨rfl, _⟩, _, rfl⟩ := he
    have hs' : cur.size = cap * 2 := hs
    obtain ⟨cur', k1, k2, k3⟩ := lI vs (q * 2) w cur hh (by omega)
    refine .inr ⟨g, cap, cur', by rw [List.length_take, Nat.min_eq_left (by omega)], h1, k1, by rw [List.length_take, Nat.min_eq_left (by omega)]; omega, h3, by rw [k2]; exact hs, ?_⟩
    rw [← ht, k3, List.length_take, Nat.min_eq_left (by omega : q ≤ xs.length)]
    show (cur.toList.take (q * 2) ++ vs ++ _).take (q * 2) = cur.toList.take (q * 2)
    rw [List.append_assoc, List.take_append_of_le_length (by rw [List.length_take, Array.length_toList]; omega), List.take_take, Nat.min_self]
theorem pW {w : World} {base n cap q g : Nat} {xs : List TSp} (h : RSp w base ⟨g, 0, none⟩ n cap xs) (hq : q < n) (ty : TypeId) (c : Nat) :
    (Builtin.clear_ #[40] ty #[.slice (some ⟨g, q * 2, none⟩) (n - q) c]).run Try.prog w = .ok (.tuple #[]) (w.setCells g (q * 2) (zs (n - q))) := by
  have hc := h.cap
  obtain ⟨cur, hh, hs⟩ := h.row
  have h1 : ∀ v ∈ zs (n - q), v.oneCell' = true := by
    intro v hv
    simp only [zs, Builtin.zeroCells, Array.toList_map, Array.toList_range, List.mem_map, List.mem_range] at hv
    obtain ⟨i, _, rfl⟩ := hv
    rcases Nat.mod_two_eq_zero_or_one i with h2 | h2
    · show Value.oneCell' (#[Value.int .i64 0, .int .i64 0][i % 2]!) = true
      rw [h2]; rfl
    · show Value.oneCell' (#[Value.int .i64 0, .int .i64 0][i % 2]!) = true
      rw [h2]; rfl
  have hst := run_storeCells_cells (P := Try.prog) g (q * 2) (zs (n - q)) 0 w (fun j hj => by rw [pI] at hj; rw [cell_of_row w g _ cur _ (0, 0) hh]; rw [Array.getElem?_eq_getElem (by rw [hs]; omega)]; rfl) (fun j _ => iH hh _) h1
  simp only [Nat.add_zero] at hst
  have hz : ∀ w, (zeroValue 60).run Try.prog w = .ok (.agg #[.int .i64 0, .int .i64 0]) w := fun w => by
    obtain ⟨i, hi, he⟩ := Option.map_eq_some_iff.1 mY
    simp only [Prod.mk.injEq] at he
    simp [zeroValue, typeInfo, hi, he.1]
  obtain ⟨m, hm⟩ : ∃ m, n - q = m + 1 := ⟨n - q - 1, by omega⟩
  rw [hm] at hst ⊢
  have hzc : (Builtin.zeroCells (Value.cells (.agg #[.int .i64 0, .int .i64 0])) (m + 1)).toList = zs (m + 1) := by
    rw [show Value.cells (.agg #[.int .i64 0, .int .i64 0]) = #[.int .i64 0, .int .i64 0] from rfl]; rfl
  simp [Builtin.clear_, run_underlying Try.underlying40, hz, hzc, hst]
set_option maxRecDepth 100000 in
set_option maxHeartbeats 4000000 in
theorem qL (w0 : World) (ad : Addr) (cap n : Nat) (xs : List TSp) (w : World) (hR : RSp w w0.heap.size ad n cap xs) (hB : Below w0.heap.size w0 w) (hn0 : 0 < n) (hs : (n : Int) ≤ 8796093022208) :
    Calls Try.prog 85 #[.slice (some ad) n cap, .func (.func 86) #[] #[]] w fun e w' => ∃ q, e = .returned (.slice (some ad) q cap) ∧ RSp w' w0.heap.size ad q cap (glN xs n) ∧ Below w0.heap.size w0 w' ∧ Fr ad.block w w' := by
  have HR := iC.mk hR
  have HB := iC.mk hB
  have hcap := hR.cap
  have HN := iC.mk hR.len
  obtain ⟨g, hg⟩ := hR.adr
  have HAD := iC.mk hg
  clear hR hB hg
  go_enter Try.func85, Try.ntmps85
  go_wp2
  · rename_i hlt2
    go_ret
    obtain rfl : n = 1 := by omega
    exact ⟨1, rfl, by rw [qP xs (by have := HN.out; omega)]; have := HR.out; rwa [List.take_of_length_le (by have := HN.out; omega)], HB.out, Fr.refl _ _⟩
  · go_loopw [5] (fun p wr => ∃ k : Nat, 1 ≤ k ∧ k ≤ n ∧ p = .int .i64 k ∧ iC (RSp wr w0.heap.size ad n cap xs) ∧ iC (Below w0.heap.size w0 wr) ∧ iC (glN xs k = xs.take k) ∧ iC (Fr ad.block w wr)) (fun p _ => n - (intOf p).toNat)
    case atStart => exact ⟨1, Nat.le_refl _, by omega, rfl, HR, HB, ⟨qP xs (by have := HN.out; omega)⟩, ⟨Fr.refl _ _⟩⟩
    case round =>
      obtain ⟨k, hk1, hk, rfl, HR1, HB1, HG, HF1⟩ := hrel
      by_cases hlt : k < n
      · obtain ⟨x, hx⟩ : ∃ x, x = rdSp xs k := ⟨_, rfl⟩
        obtain ⟨m, hm⟩ : ∃ m : Nat, k = m + 1 := ⟨k - 1, by omega⟩
        have hw : wrap64 ((k : Int) - 1) = (m : Int) := by unfold wrap64; omega
        have hml : m < n := by omega
        obtain ⟨y, hy⟩ : ∃ y, y = rdSp xs m := ⟨_, rfl⟩
        have hxx := HR1.out.at k hlt
        have hyy := HR1.out.at m hml
        rw [← hx] at hxx
        rw [← hy] at hyy
        have HX := iC.mk hx
        have HY := iC.mk hy
        have HM := iC.mk hm
        clear hx hy hm
        go_wp2
        refine lT (n := 11) (S := fun w' => w'.cell? (ad.add (k * 2)) = some (.int .i64 x.f0) ∧ w'.cell? ⟨(ad.add (k * 2)).block, (ad.add (k * 2)).off + 1, none⟩ = some (.int .i64 x.f1) ∧ w'.cell? (ad.add (m * 2)) = some (.int .i64 y.f0) ∧ w'.cell? ⟨(ad.add (m * 2)).block, (ad.add (m * 2)).off + 1, none⟩ = some (.int .i64 y.f1)) (ds := [10]) #[false, false, false, false, false, false, false, false, false, false, false] (by kernel_rfl) rfl rfl ⟨hxx.1, hxx.2, hyy.1, hyy.2⟩ (fun hHeld => ?_)
        refine kK (T := (true, [([], []), ([], []), ([], []), ([1, 2], [1, 2]), ([3], [3]), ([], []), ([], []), ([6], [6]), ([5, 7], [5, 7]), ([8], [8]), ([0, 4, 9], [0, 4, 9])])) (B := [0, 0, 0, 6, 14, 0, 0, 64, 224, 480, 1023]) (by kernel_rfl) (by kernel_rfl) (fun HT_ HW_ => ?_)
        refine jI (i := 0) (N := some 18) (v := ?_) (a' := ?_) #[true, false, false, false, false, false, false, false, false, false, false] rfl rfl (jB HT_.out (by kernel_rfl)) (fun _ _ _ h => h) (Or.inl ⟨by rfl, ?_⟩) ?_ ?_
        rotate_left
        · intro w'
          go_simp
          with_reducible rfl
        rotate_left
        · simp only [Act.put, List.setIfInBounds_toArray, List.set_cons_zero, List.set_cons_succ, iY, iZ]
          rfl
        refine jI (i := 1) (N := some 19) (v := ?_) (a' := ?_) #[true, true, false, false, false, false, false, false, false, false, false] rfl rfl (jB HT_.out (by kernel_rfl)) (fun _ _ _ h => h) (Or.inl ⟨by rfl, ?_⟩) ?_ ?_
        rotate_left
        · intro w'
          go_simp
          with_reducible rfl
        rotate_left
        · simp only [Act.put, List.setIfInBounds_toArray, List.set_cons_zero, List.set_cons_succ, iY, iZ]
          rfl
        refine jI (i := 2) (N := some 20) (v := ?_) (a' := ?_) #[true, true, true, false, false, false, false, false, false, false, false] rfl rfl (jB HT_.out (by kernel_rfl)) (fun _ _ _ h => h) (Or.inl ⟨by rfl, ?_⟩) ?_ ?_
        rotate_left
        · intro w'
          go_simp
          with_reducible rfl
        rotate_left
        · simp only [Act.put, List.setIfInBounds_toArray, List.set_cons_zero, List.set_cons_succ, iY, iZ]
          rfl
        refine jI (i := 3) (N := some 21) (v := ?_) (a' := ?_) #[true, true, true, true, false, false, false, false, false, false, false] rfl rfl (jB HT_.out (by kernel_rfl)) (fun _ _ _ h => h) (Or.inl ⟨by rfl, ?_⟩) ?_ ?_
        rotate_left
        · intro w'
          go_simp
          with_reducible rfl
        rotate_left
        · simp only [Act.put, List.setIfInBounds_toArray, List.set_cons_zero, List.set_cons_succ, iY, iZ]
          rfl
        refine jI (i := 5) (N := some 23) (v := ?_) (a' := ?_) #[true, true, true, true, false, true, false, false, false, false, false] rfl rfl (jB HT_.out (by kernel_rfl)) (fun _ _ _ h => h) (Or.inl ⟨by rfl, ?_⟩) ?_ ?_
        rotate_left
        · intro w'
          go_simp
          with_reducible rfl
        rotate_left
        · simp only [Act.put, List.setIfInBounds_toArray, List.set_cons_zero, List.set_cons_succ, iY, iZ]
          rfl
        refine jI (i := 6) (N := some 24) (v := ?_) (a' := ?_) #[true, true, true, true, false, true, true, false, false, false, false] rfl rfl (jB HT_.out (by kernel_rfl)) (fun _ _ _ h => h) (Or.inl ⟨by rfl, ?_⟩) ?_ ?_
        rotate_left
        · intro w'
          go_simp
          with_reducible rfl
        rotate_left
        · simp only [Act.put, List.setIfInBounds_toArray, List.set_cons_zero, List.set_cons_succ, iY, iZ]
          rfl
        refine jI (i := 7) (N := some 25) (v := ?_) (a' := ?_) #[true, true, true, true, false, true, true, true, false, false, false] rfl rfl (jB HT_.out (by kernel_rfl)) (fun _ _ _ h => h) (Or.inl ⟨by rfl, ?_⟩) ?_ ?_
        rotate_left
        · intro w'
          go_simp
          with_reducible rfl
        rotate_left
        · simp only [Act.put, List.setIfInBounds_toArray, List.set_cons_zero, List.set_cons_succ, iY, iZ]
          rfl
        refine jI (i := 8) (N := some 26) (v := ?_) (a' := ?_) #[true, true, true, true, false, true, true, true, true, false, false] rfl rfl (jB HT_.out (by kernel_rfl)) (fun _ _ _ h => h) (Or.inl ⟨by rfl, ?_⟩) ?_ ?_
        rotate_left
        · intro w'
          go_simp
          with_reducible rfl
        rotate_left
        · simp only [Act.put, List.setIfInBounds_toArray, List.set_cons_zero, List.set_cons_succ, iY, iZ]
          rfl
        refine take_ (i := 4) (N := some 22) (v := ?_) (a' := ?_) #[true, true, true, true, true, true, true, true, true, false, false] rfl rfl (jM HT_.out HW_.out (by kernel_rfl)) (fun _ _ _ h => h) (Or.inl ⟨by rfl, ?_⟩) hHeld ?_ ?_
        rotate_left
        · rintro w' ⟨s0, s1, s2, s3⟩
          go_simp
          with_reducible rfl
        rotate_left
        · simp only [Act.put, List.setIfInBounds_toArray, List.set_cons_zero, List.set_cons_succ, iY, iZ]
          rfl
        refine take_ (i := 9) (N := some 27) (v := ?_) (a' := ?_) #[true, true, true, true, true, true, true, true, true, true, false] rfl rfl (jM HT_.out HW_.out (by kernel_rfl)) (fun _ _ _ h => h) (Or.inl ⟨by rfl, ?_⟩) hHeld ?_ ?_
        rotate_left
        · rintro w' ⟨s0, s1, s2, s3⟩
          go_simp
          with_reducible rfl
        rotate_left
        · simp only [Act.put, List.setIfInBounds_toArray, List.set_cons_zero, List.set_cons_succ, iY, iZ]
          rfl
        refine zL (i := 10) (N := some 28) #[true, true, true, true, true, true, true, true, true, true, true] rfl rfl (kQ HT_.out (by kernel_rfl)) (by decide) (fun K hK => ?_)
        refine yB Try.func86 (by kernel_rfl) rfl #[.agg #[.int .i64 x.f0, .int .i64 x.f1], .agg #[.int .i64 y.f0, .int .i64 y.f1]] (by rfl) rfl rfl rfl (by simp only [List.map_toArray, List.map_cons, List.map_nil]; rfl) ?_
        with_reducible refine (qY x y _).mono ?_
        rintro e w2 ⟨rfl, rfl⟩
        refine ⟨_, rfl, ?_⟩
        refine hK.out _ _ ?_
        clear hK K
        refine kT (a' := ?_) ?_ ?_
        rotate_left
        · show Act.put _ (some 28) _ = _
          simp only [Act.put, List.setIfInBounds_toArray, List.set_cons_zero, List.set_cons_succ, iY, iZ]
          rfl
        refine nU (kY HT_.out (by kernel_rfl)) ?_
        have hb2 : Below wr.heap.size wr (W86 wr.drew x y) := by (with_reducible (repeat (first | exact Below.refl _ _ | apply iF | apply kD | apply iD | apply below_bytesWorld | (refine iE ?_ (by first | assumption | omega)) | refine iK ?_ (by assumption))))
        obtain ⟨w2, hw2⟩ : ∃ w2, w2 = W86 wr.drew x y := ⟨_, rfl⟩
        rw [← hw2] at hb2 ⊢
        have HR2 := iC.mk (HR1.out.bel hb2)
        have HB2 := iC.mk (HB1.out.trans (hb2.mono HB1.out.size))
        have HF2 := iC.mk (HF1.out.bel hb2)
        clear hHeld HT_ HW_ hw2 hb2 hxx hyy hw
        by_cases heq : x.f1 = y.f1
        · go_wp2
          obtain ⟨r, hr⟩ : ∃ r, r = n - k := ⟨_, rfl⟩
          rw [← hr]
          have hr1 : 1 ≤ r := by omega
          have hrs : (r : Int) ≤ 8796093022208 := by omega
          have HRR := iC.mk (show k + r = n by omega)
          clear hr
          go_loopw [5, 7] (fun p t wr => ∃ (q j : Nat) (ys : List TSp), 1 ≤ q ∧ 1 ≤ j ∧ j ≤ r ∧ p = .int .i64 q ∧ t = .int .i64 j ∧ q + 1 ≤ k + j ∧ iC (ys.take q = glN xs (k + j)) ∧ iC (∀ i : Nat, k + j ≤ i + 1 → rdSp ys i = rdSp xs i) ∧ iC (RSp wr w0.heap.size ad n cap ys) ∧ iC (Below w0.heap.size w0 wr) ∧ iC (Fr ad.block w wr)) (fun _ t _ => r - (intOf t).toNat)
          case atStart => exact ⟨k, 1, xs, hk1, Nat.le_refl _, hr1, rfl, rfl, Nat.le_refl _, ⟨by rw [oH xs k m HM.out x y HX.out HY.out, if_pos heq, HG.out]⟩, ⟨fun _ _ => rfl⟩, HR2, HB2, HF2⟩
          case round =>
            obtain ⟨q, j, ys, hq1, hj1, hjr, rfl, rfl, hqk, HT, HS, HR3, HB3, HF3⟩ := hrel
            have hqn : q < n := by have := HRR.out; omega
            by_cases hjl : j < r
            · obtain ⟨x3, hx⟩ : ∃ x, x = rdSp xs ((k + j : Nat) : Int) := ⟨_, rfl⟩
              obtain ⟨j0, hj0⟩ : ∃ m : Nat, j = m + 1 := ⟨j - 1, by omega⟩
              have hw : wrap64 ((j : Int) - 1) = (j0 : Int) := by unfold wrap64; omega
              have hjl0 : j0 < r := by omega
              obtain ⟨y3, hy⟩ : ∃ y, y = rdSp xs ((k + j0 : Nat) : Int) := ⟨_, rfl⟩
              have hxx := HR3.out.at (k + j) (by have := HRR.out; omega)
              have hyy := HR3.out.at (k + j0) (by have := HRR.out; omega)
              rw [HS.out _ (by omega), ← hx, ← oU HAD.out] at hxx
              rw [HS.out _ (by omega), ← hy, ← oU HAD.out] at hyy
              have HX3 := iC.mk hx
              have HY3 := iC.mk hy
              have HJ0 := iC.mk hj0
              clear hx hy hj0
              go_wp2
              refine lT (n := 12) (S := fun w' => w'.cell? ((ad.add (k * 2)).add (j * 2)) = some (.int .i64 x3.f0) ∧ w'.cell? ⟨((ad.add (k * 2)).add (j * 2)).block, ((ad.add (k * 2)).add (j * 2)).off + 1, none⟩ = some (.int .i64 x3.f1) ∧ w'.cell? ((ad.add (k * 2)).add (j0 * 2)) = some (.int .i64 y3.f0) ∧ w'.cell? ⟨((ad.add (k * 2)).add (j0 * 2)).block, ((ad.add (k * 2)).add (j0 * 2)).off + 1, none⟩ = some (.int .i64 y3.f1)) (ds := [10]) #[false, false, false, false, false, false, false, false, false, false, false, false] (by kernel_rfl) rfl rfl ⟨hxx.1, hxx.2, hyy.1, hyy.2⟩ (fun hHeld => ?_)
              refine kK (T := (true, [([], []), ([], []), ([], []), ([1, 2], [1, 2]), ([3], [3]), ([], []), ([], []), ([6], [6]), ([5, 7], [5, 7]), ([8], [8]), ([0, 4, 9], [0, 4, 9]), ([10], [10])])) (B := [0, 0, 0, 6, 14, 0, 0, 64, 224, 480, 1023, 2047]) (by kernel_rfl) (by kernel_rfl) (fun HT_ HW_ => ?_)
              refine jI (i := 0) (N := some 38) (v := ?_) (a' := ?_) #[true, false, false, false, false, false, false, false, false, false, false, false] rfl rfl (jB HT_.out (by kernel_rfl)) (fun _ _ _ h => h) (Or.inl ⟨by rfl, ?_⟩) ?_ ?_
              rotate_left
              · intro w'
                go_simp
                with_reducible rfl
              rotate_left
              · simp only [Act.put, List.setIfInBounds_toArray, List.set_cons_zero, List.set_cons_succ, iY, iZ]
                rfl
              refine jI (i := 1) (N := some 39) (v := ?_) (a' := ?_) #[true, true, false, false, false, false, false, false, false, false, false, false] rfl rfl (jB HT_.out (by kernel_rfl)) (fun _ _ _ h => h) (Or.inl ⟨by rfl, ?_⟩) ?_ ?_
              rotate_left
              · intro w'
                go_simp
                with_reducible rfl
              rotate_left
              · simp only [Act.put, List.setIfInBounds_toArray, List.set_cons_zero, List.set_cons_succ, iY, iZ]
                rfl
              refine jI (i := 2) (N := some 40) (v := ?_) (a' := ?_) #[true, true, true, false, false, false, false, false, false, false, false, false] rfl rfl (jB HT_.out (by kernel_rfl)) (fun _ _ _ h => h) (Or.inl ⟨by rfl, ?_⟩) ?_ ?_
              rotate_left
              · intro w'
                go_simp
                with_reducible rfl
              rotate_left
              · simp only [Act.put, List.setIfInBounds_toArray, List.set_cons_zero, List.set_cons_succ, iY, iZ]
                rfl
              refine jI (i := 3) (N := some 41) (v := ?_) (a' := ?_) #[true, true, true, true, false, false, false, false, false, false, false, false] rfl rfl (jB HT_.out (by kernel_rfl)) (fun _ _ _ h => h) (Or.inl ⟨by rfl, ?_⟩) ?_ ?_
              rotate_left
              · intro w'
                go_simp
                with_reducible rfl
              rotate_left
              · simp only [Act.put, List.setIfInBounds_toArray, List.set_cons_zero, List.set_cons_succ, iY, iZ]
                rfl
              refine jI (i := 5) (N := some 43) (v := ?_) (a' := ?_) #[true, true, true, true, false, true, false, false, false, false, false, false] rfl rfl (jB HT_.out (by kernel_rfl)) (fun _ _ _ h => h) (Or.inl ⟨by rfl, ?_⟩) ?_ ?_
              rotate_left
              · intro w'
                go_simp
                with_reducible rfl
              rotate_left
              · simp only [Act.put, List.setIfInBounds_toArray, List.set_cons_zero, List.set_cons_succ, iY, iZ]
                rfl
              refine jI (i := 6) (N := some 44) (v := ?_) (a' := ?_) #[true, true, true, true, false, true, true, false, false, false, false, false] rfl rfl (jB HT_.out (by kernel_rfl)) (fun _ _ _ h => h) (Or.inl ⟨by rfl, ?_⟩) ?_ ?_
              rotate_left
              · intro w'
                go_simp
                with_reducible rfl
              rotate_left
              · simp only [Act.put, List.setIfInBounds_toArray, List.set_cons_zero, List.set_cons_succ, iY, iZ]
                rfl
              refine jI (i := 7) (N := some 45) (v := ?_) (a' := ?_) #[true, true, true, true, false, true, true, true, false, false, false, false] rfl rfl (jB HT_.out (by kernel_rfl)) (fun _ _ _ h => h) (Or.inl ⟨by rfl, ?_⟩) ?_ ?_
              rotate_left
              · intro w'
                go_simp
                with_reducible rfl
              rotate_left
              · simp only [Act.put, List.setIfInBounds_toArray, List.set_cons_zero, List.set_cons_succ, iY, iZ]
                rfl
              refine jI (i := 8) (N := some 46) (v := ?_) (a' := ?_) #[true, true, true, true, false, true, true, true, true, false, false, false] rfl rfl (jB HT_.out (by kernel_rfl)) (fun _ _ _ h => h) (Or.inl ⟨by rfl, ?_⟩) ?_ ?_
              rotate_left
              · intro w'
                go_simp
                with_reducible rfl
              rotate_left
              · simp only [Act.put, List.setIfInBounds_toArray, List.set_cons_zero, List.set_cons_succ, iY, iZ]
                rfl
              refine take_ (i := 4) (N := some 42) (v := ?_) (a' := ?_) #[true, true, true, true, true, true, true, true, true, false, false, false] rfl rfl (jM HT_.out HW_.out (by kernel_rfl)) (fun _ _ _ h => h) (Or.inl ⟨by rfl, ?_⟩) hHeld ?_ ?_
              rotate_left
              · rintro w' ⟨s0, s1, s2, s3⟩
                go_simp
                with_reducible rfl
              rotate_left
              · simp only [Act.put, List.setIfInBounds_toArray, List.set_cons_zero, List.set_cons_succ, iY, iZ]
                rfl
              refine take_ (i := 9) (N := some 47) (v := ?_) (a' := ?_) #[true, true, true, true, true, true, true, true, true, true, false, false] rfl rfl (jM HT_.out HW_.out (by kernel_rfl)) (fun _ _ _ h => h) (Or.inl ⟨by rfl, ?_⟩) hHeld ?_ ?_
              rotate_left
              · rintro w' ⟨s0, s1, s2, s3⟩
                go_simp
                with_reducible rfl
              rotate_left
              · simp only [Act.put, List.setIfInBounds_toArray, List.set_cons_zero, List.set_cons_succ, iY, iZ]
                rfl
              refine zL (i := 10) (N := some 48) #[true, true, true, true, true, true, true, true, true, true, true, false] rfl rfl (kQ HT_.out (by kernel_rfl)) (by decide) (fun K hK => ?_)
              refine yB Try.func86 (by kernel_rfl) rfl #[.agg #[.int .i64 x3.f0, .int .i64 x3.f1], .agg #[.int .i64 y3.f0, .int .i64 y3.f1]] (by rfl) rfl rfl rfl (by simp only [List.map_toArray, List.map_cons, List.map_nil]; rfl) ?_
              with_reducible refine (qY x3 y3 _).mono ?_
              rintro e w4 ⟨rfl, rfl⟩
              refine ⟨_, rfl, ?_⟩
              refine hK.out _ _ ?_
              clear hK K
              refine kT (a' := ?_) ?_ ?_
              rotate_left
              · show Act.put _ (some 48) _ = _
                simp only [Act.put, List.setIfInBounds_toArray, List.set_cons_zero, List.set_cons_succ, iY, iZ]
                rfl
              refine jI (i := 11) (N := some 49) (v := ?_) (a' := ?_) #[true, true, true, true, true, true, true, true, true, true, true, true] rfl rfl (jB HT_.out (by kernel_rfl)) (fun _ _ _ h => h) (Or.inl ⟨by rfl, ?_⟩) ?_ ?_
              rotate_left
              · intro w'
                go_simp
                with_reducible rfl
              rotate_left
              · simp only [Act.put, List.setIfInBounds_toArray, List.set_cons_zero, List.set_cons_succ, iY, iZ]
                rfl
              refine nU (kY HT_.out (by kernel_rfl)) ?_
              have hb4 : Below wr.heap.size wr (W86 wr.drew x3 y3) := by (with_reducible (repeat (first | exact Below.refl _ _ | apply iF | apply kD | apply iD | apply below_bytesWorld | (refine iE ?_ (by first | assumption | omega)) | refine iK ?_ (by assumption))))
              obtain ⟨w4, hw4⟩ : ∃ w4, w4 = W86 wr.drew x3 y3 := ⟨_, rfl⟩
              rw [← hw4] at hb4 ⊢
              have HR4 := iC.mk (HR3.out.bel hb4)
              have HB4 := iC.mk (HB3.out.trans (hb4.mono HB3.out.size))
              have HF4 := iC.mk (HF3.out.bel hb4)
              have hstep := oH xs (k + j) (k + j0) (by have := HJ0.out; omega) x3 y3 HX3.out HY3.out
              have hjj : k + (j + 1) = k + j + 1 := by omega
              clear hHeld HT_ HW_ hw4 hb4 hxx hyy hw
              by_cases heq3 : x3.f1 = y3.f1
              · rw [if_pos heq3] at hstep
                simp only [decide_eq_true heq3, Bool.not_true]
                have HST := iC.mk hstep
                have HJJ := iC.mk hjj
                clear hstep hjj
                go_wp2
                go_roundw
                case rel => exact ⟨q, j + 1, ys, hq1, by omega, by omega, rfl, by congr 1, by omega, ⟨by rw [HJJ.out, HST.out, HT.out]⟩, ⟨fun i hi => HS.out i (by omega)⟩, HR4, HB4, HF4⟩
                case measure => simp [intOf]; omega
              · rw [if_neg heq3] at hstep
                simp only [decide_eq_false heq3, Bool.not_false]
                have HST := iC.mk hstep
                have HJJ := iC.mk hjj
                clear hstep hjj
                have hxx := HR4.out.at (k + j) (by have := HRR.out; omega)
                rw [HS.out _ (by omega), ← HX3.out, ← oU HAD.out] at hxx
                obtain ⟨hx1, hx2⟩ := hxx
                obtain ⟨z, hz⟩ : ∃ z, z = rdSp ys q := ⟨_, rfl⟩
                have hzz := HR4.out.at q hqn
                rw [← hz, yP HAD.out] at hzz
                have HZ := iC.mk hzz
                clear hz hzz
                go_wp2_with (refine zB (.store 60 (.tmp 56) (.tmp 55)) rfl ?_; refine Kd.R_store k60 (w0 := w0) w0.heap.size rfl rfl 60 (.tmp 56) (.tmp 55) rfl 60 (g := g) (n := n) (cap := cap) (o' := q * 2) (q : Int) 0 ys x3 (.agg #[.int .i64 x3.f0, .int .i64 x3.f1]) [.int .i64 x3.f0, .int .i64 x3.f1] [.int .i64 z.f0, .int .i64 z.f1] (fun _ => True) (fun _ => False) (congrArg (fun a => Value.pointer (some a)) (yP HAD.out (q * 2))) (by simp; rfl) rfl rfl (by kernel_rfl) (by intro v hv; simp at hv; rcases hv with rfl | rfl <;> rfl) (by have := HR4.out; rw [HAD.out] at this; exact this) (by omega) (by omega) rfl ?hcc (by simp; decide) (kS _ _ _ x3) (fun _ h => h.elim) HB4.out ?_; (case hcc => exact uM HZ.out.1 HZ.out.2); intro w5 hR5 hB5 hg5; have HR5 := iC.mk hR5; have HB5 := iC.mk hB5; have HF5 := iC.mk (HF4.out.grown (by rw [HAD.out]; exact hg5)); clear hR5 hB5 hg5 hx1 hx2)
                go_roundw
                case rel => exact ⟨q + 1, j + 1, ys.set q x3, by omega, by omega, by omega, by congr 1, by congr 1, by omega, ⟨by rw [HJJ.out, HST.out, ← HT.out]; exact xM _ _ (by have := HR4.out.len; omega) _⟩, ⟨fun i hi => (zJ _ _ _ (by omega) _).trans (HS.out i (by omega))⟩, ⟨by rw [HAD.out]; exact HR5.out⟩, HB5, HF5⟩
                case measure => simp [intOf]; omega
            · obtain rfl : j = r := by omega
              have hcl : ∀ ty, (Builtin.clear_ #[40] ty #[.slice (some (ad.add (q * 2))) (n - q) (cap - q)]).run Try.prog wr = .ok (.tuple #[]) (wr.setCells g (q * 2) (zs (n - q))) := fun ty => by
                rw [yP HAD.out]; exact pW (xs := ys) (cap := cap) (base := w0.heap.size) (by have := HR3.out; rw [HAD.out] at this; exact this) hqn ty _
              have hfin : RSp (wr.setCells g (q * 2) (zs (n - q))) w0.heap.size ad q cap (ys.take q) := by
                have := HR3.out; rw [HAD.out] at this ⊢; exact this.clear (by omega) _ (by rw [pI]; omega)
              have hbf : Below w0.heap.size w0 (wr.setCells g (q * 2) (zs (n - q))) := HB3.out.trans (qQ (HR3.out.base HAD.out) _ _ _)
              rw [HT.out, HRR.out] at hfin
              have HF := iC.mk hfin
              have HBF := iC.mk hbf
              have HFF := iC.mk (show Fr ad.block w (wr.setCells g (q * 2) (zs (n - q))) by have := HF3.out; rw [HAD.out] at this ⊢; exact this.cells _ _)
              clear hfin hbf
              go_wp2
              go_ret
              exact ⟨q, rfl, HF.out, HBF.out, HFF.out⟩
        · go_wp2
          go_roundw
          case rel => exact ⟨k + 1, by omega, by omega, by congr 1, HR2, HB2, ⟨by rw [oH xs k m HM.out x y HX.out HY.out, if_neg heq, HG.out, take_snoc xs k (by have := HN.out; omega), HX.out]⟩, HF2⟩
          case measure => simp [intOf]; omega
      · obtain rfl : k = n := by omega
        go_wp2
        go_ret
        exact ⟨k, rfl, by rw [HG.out, List.take_of_length_le (by have := HN.out; omega)]; exact HR1.out, HB1.out, HF1.out⟩
end Go.Proofs.Ytbpdejbkfpkphaa.K
end

section
namespace Go.Proofs.Ytbpdejbkfpkphaa.K
open Go Go.RowKit Go.Proofs.YtbpdejbkfpkphaaW.PrintWords Go.Proofs.YtbpdejbkfpkphaaW.PrintLast Go.Proofs.YtbpdejbkfpkphaaW.PrintMore Go.Proofs.Ytbpdejbkfpkphaa.My
abbrev ki : Kd Int := Kd.int .i64
theorem yU : (Try.prog.info? 3).map (fun i => (i.zero, i.size, i.bytes)) = some (some (.int .i64 0), ki.sz, 8) := by kernel_rfl
theorem OI.empty (w : World) : ki.R 3 (w.alloc (.cells #[] 3)) w.heap.size (fun _ => True) (.slice (some ⟨w.heap.size, 0, none⟩) 0 0) [] := by
  refine Kd.R_of_own ?_ (fun _ _ => trivial)
  have h := World.ownsRow_lit (base := w.heap.size) (e := 3) (size := 1) w #[] 0 (Nat.le_refl _) (by simp) (by simp)
  simpa [encs] using h
theorem yS {w : World} {n : Nat} {l : List Int} (h : ki.C w none n l) : l = [] ∧ n = 0 := by
  have h1 := h.1
  rcases Nat.eq_zero_or_pos n with h0 | h0
  · subst h0; exact ⟨List.length_eq_zero_iff.1 h1, rfl⟩
  · obtain ⟨ad, e, _⟩ := h.2.2 h0; cases e
def slices_Clone_int_int.f (l : List Int) : Option (List Int) := if (l.length : Int) ≤ 17592186044416 then some l else none
set_option maxHeartbeats 1000000 in
theorem slices_Clone_int_int.calls (A : Option Addr) (c : Nat) (l r : List Int) (w : World) (hr : ki.C w A l.length l) (hc : l.length ≤ c) (h : slices_Clone_int_int.f l = some r) :
    Calls Try.prog 70 #[.slice A l.length c] w fun e w' => ∃ v0_, e = .returned v0_ ∧ (Kd.int .i64).R 3 w' w.heap.size (fun _ => True) v0_ r ∧ Below w.heap.size w w' := by
  have hs : (l.length : Int) ≤ 17592186044416 := by
    unfold slices_Clone_int_int.f at h; split at h
    · assumption
    · cases h
  have hlr : l = r := by
    unfold slices_Clone_int_int.f at h; rw [if_pos hs] at h; exact Option.some.inj h
  subst hlr
  clear h
  have hnil := fun (w : World) (a : Option Addr) (n c : Nat) => Lib.run_eql_slice_nil (P := Try.prog) w 25 3 a n c 0 0 Try.underlying25
  cases A with
  | none =>
    obtain ⟨rfl, _⟩ := yS hr
    go_enter Try.func70, Try.ntmps70
    go_wp2
    go_ret
    exact ⟨_, rfl, Kd.R_nil _ _ _ _ _, Below.refl _ _⟩
  | some ad =>
    have HL := iC.mk hr
    clear hr
    go_enter Try.func70, Try.ntmps70
    go_wp2_with (at_builtin; refine Kd.R_append_rows ki (w0 := w) w.heap.size rfl (.tmp 5) (.tmp 6) 25 3 (.int .i64 0) 8 rfl Try.underlying25 yU rfl (by decide) (by omega) (.slice (some ⟨w.heap.size, 0, none⟩) 0 0) [] l _ _ _ (fun _ => True) (fun _ => False) rfl rfl (OI.empty w) ?aR (fun _ _ h => h) (fun _ h => h.elim) (fun _ _ => trivial) ?aB ?aS ?aL ?_; (case aR => exact Kd.C_below HL.out (by (repeat (first | exact Below.refl _ _ | apply iF | apply kD | apply iD | apply below_bytesWorld | (refine iE ?_ (by first | assumption | omega)) | refine iK ?_ (by assumption))))); (case aB => (repeat (first | exact Below.refl _ _ | apply iF | apply kD | apply iD | apply below_bytesWorld | (refine iE ?_ (by first | assumption | omega)) | refine iK ?_ (by assumption)))); (case aS => exact iJ (by (repeat (first | exact Below.refl _ _ | apply iF | apply kD | apply iD | apply below_bytesWorld | (refine iE ?_ (by first | assumption | omega)) | refine iK ?_ (by assumption))))); (case aL => simp; omega); intro v1 w2 HO HB hg hat)
    go_ret
    exact ⟨_, rfl, HO, HB⟩
def spans_glued.f (xs : List TSp) : Option (List TSp) := if (xs.length : Int) ≤ 8796093022208 then some (glN xs xs.length) else none
theorem uK {w : World} {base : Nat} {ok ok' : Nat → Prop} {v : Value} {xs : List TSp} (h : Kd.R k60 60 w base ok v xs) (hk : ∀ k, v.ownBlock = some k → ok' k) : Kd.R k60 60 w base ok' v xs := Kd.R_reok rfl h hk
theorem pJ (w0 : World) (A : Option Addr) (cap : Nat) (xs r : List TSp) (w : World) {ok : Nat → Prop} (hR : Kd.R k60 60 w w0.heap.size ok (.slice A xs.length cap) xs) (hB : Below w0.heap.size w0 w) (h : spans_glued.f xs = some r) :
    Calls Try.prog 66 #[.slice A xs.length cap] w fun e w' => ∃ v, e = .returned v ∧ Kd.R k60 60 w' w0.heap.size (fun _ => True) v r ∧ Below w0.heap.size w0 w' ∧ ∀ k o, w.heap[k]? = some o → some k ≠ (Value.slice A xs.length cap).ownBlock → w'.heap[k]? = some o := by
  have hs : (xs.length : Int) ≤ 8796093022208 := by
    unfold spans_glued.f at h; split at h
    · assumption
    · cases h
  obtain rfl : glN xs xs.length = r := by
    unfold spans_glued.f at h; rw [if_pos hs] at h; exact Option.some.inj h
  clear h
  by_cases h0 : xs = []
  · subst h0
    have HR := iC.mk hR
    have HB := iC.mk hB
    clear hR hB
    have hcall : Calls Try.prog 85 #[.slice A 0 cap, .func (.func 86) #[] #[]] w fun e w' => e = .returned (.slice A 0 cap) ∧ w' = w := by
      go_enter Try.func85, Try.ntmps85
      go_wp2
      go_ret
      exact ⟨rfl, rfl⟩
    go_enter Try.func66, Try.ntmps66
    go_wp2_with (go_at_call 85; refine hcall.mono ?_; rintro e w' ⟨rfl, rfl⟩)
    go_ret
    exact ⟨_, rfl, uK HR.out (fun _ _ => trivial), HB.out, fun _ _ h _ => h⟩
  · have hn : 0 < xs.length := List.length_pos_iff.2 h0
    obtain ⟨ad, c', he⟩ : ∃ ad c', Value.slice A xs.length cap = .slice (some ad) xs.length c' := by
      obtain ⟨ad, c', he⟩ := Kd.R_slice1 hR hn
      exact ⟨ad, c', he⟩
    simp only [Value.slice.injEq] at he
    obtain ⟨rfl, _, rfl⟩ := he
    have hcall := qL w0 ad cap xs.length xs w (uK hR (fun _ _ => trivial)) hB hn hs
    clear hR hB
    go_enter Try.func66, Try.ntmps66
    go_wp2_with (go_at_call 85; refine hcall.mono ?_; rintro e w' ⟨q, rfl, h1, h2, h3⟩; have H1 := iC.mk h1; have H2 := iC.mk h2; have H3 := iC.mk h3; clear h1 h2 h3)
    go_ret
    refine ⟨_, rfl, H1.out, H2.out, fun k o hk hne => ?_⟩
    rw [H3.out.2 k (jE hk) (fun e => hne (by subst e; rfl))]
    exact hk
end Go.Proofs.Ytbpdejbkfpkphaa.K
end

section
namespace Go.Proofs.Ytbpdejbkfpkphaa.K
open Go Go.RowKit Go.Proofs.YtbpdejbkfpkphaaW.PrintWords Go.Proofs.YtbpdejbkfpkphaaW.PrintLast Go.Proofs.YtbpdejbkfpkphaaW.PrintMore Go.Proofs.Ytbpdejbkfpkphaa.My
attribute [local go_sem] Oper.semAt_some
/-- The node of m among members: -1 where none begins at or below m. -/
def jQ (l : List TSp) (m : Int) : Int := ((l.reverse.find? (fun x => decide (x.f0 ≤ m))).map (fun x => x.f1)).getD (-1)
theorem vF (l : List TSp) : (bkU l l.length).map Prod.snd = l.reverse := by
  refine List.ext_getElem (by simp [bkU]) ?_
  intro i h1 h2
  simp only [bkU, List.length_map, List.length_range] at h1
  simp only [bkU, List.getElem_map, List.getElem_range, List.getElem_reverse]
  have : ((l.length : Int) - 1 - i).toNat = l.length - 1 - i := by omega
  simp only [rdSp, iT, this, List.getD_eq_getElem?_getD]
  rw [List.getElem?_eq_getElem (by omega)]; rfl
theorem rQ (l : List TSp) (m : Int) (h : ∀ x ∈ bkU l l.length, m < x.2.f0) : jQ l m = -1 := by
  have : l.reverse.find? (fun x => decide (x.f0 ≤ m)) = none := by
    rw [List.find?_eq_none]
    intro x hx
    rw [← vF, List.mem_map] at hx
    obtain ⟨y, hy, rfl⟩ := hx
    have := h y hy
    simp; omega
  simp [jQ, this]
theorem vT (l : List TSp) (k : Nat) (hk : k ≤ l.length) : bkU l k = (bkU l l.length).take k := by simp [bkU, ← List.map_take, List.take_range, Nat.min_eq_left hk]
theorem rV (l : List TSp) (m : Int) (pre : List (Int × TSp)) (x : Int × TSp) (k : Nat) (hk : k ≤ l.length) (hp : pre ++ [x] = bkU l k) (h : ∀ y ∈ pre, m < y.2.f0) (hx : x.2.f0 ≤ m) : jQ l m = x.2.f1 := by
  have h1 : l.reverse = (pre.map Prod.snd ++ [x.2]) ++ l.reverse.drop k := by
    have : l.reverse.take k = pre.map Prod.snd ++ [x.2] := by
      rw [← vF, ← List.map_take, ← vT l k hk, ← hp]; simp
    rw [← this, List.take_append_drop]
  have h2 : (pre.map Prod.snd).find? (fun x => decide (x.f0 ≤ m)) = none := by
    rw [List.find?_eq_none]
    intro y hy
    rw [List.mem_map] at hy
    obtain ⟨z, hz, rfl⟩ := hy
    have := h z hz
    simp; omega
  unfold jQ
  rw [h1, List.append_assoc, List.find?_append, h2]
  simp [hx]
def spans_Find.f (a0 : Int) (l : List TSp) (m : Int) : Option Int := if (l.length : Int) ≤ 8796093022208 then some (jQ l m) else none
/-- The round's member in its own box. -/
def Box2 (W : World) (B : Nat) (x : TSp) : Prop := W.heap[B]? = some (.cells #[.int .i64 x.f0, .int .i64 x.f1] 60 (0, 0))
theorem Box2.kept {X Y : World} {B : Nat} {x : TSp} {row : Option Nat} (h : Box2 X B x) (hg : X.grownBy Y row) (hr : ∀ r, row = some r → ∃ o : Obj, X.heap[r]? = some o ∧ o.isCells = false) : Box2 Y B x :=
  (hg.block B (jE h) (fun e => by
    obtain ⟨o, ho, hc⟩ := hr B e.symm
    rw [show X.heap[B]? = _ from h] at ho
    cases ho; cases hc)).trans h
/-- The last one is the first that begins at or below m. -/
def Hit (m : Int) (pre : List (Int × TSp)) : Prop := ∃ p0 x, pre = p0 ++ [x] ∧ (∀ y ∈ p0, m < y.2.f0) ∧ x.2.f0 ≤ m
def xI (pre : List (Int × TSp)) : Int := (pre.getLast?.map (fun x => x.2.f1)).getD 0
theorem oC (pre : List (Int × TSp)) (x : Int × TSp) : xI (pre ++ [x]) = x.2.f1 := by simp [xI]
set_option maxRecDepth 100000 in
set_option maxHeartbeats 4000000 in
theorem spans_Find.calls (a0 : Int) (A : Option Addr) (c : Nat) (l : List TSp) (m r : Int) (w : World) (hr : Kd.C k60 w A l.length l) (hc : l.length ≤ c) (h : spans_Find.f a0 l m = some r) :
    Calls Try.prog 35 #[.agg #[.int .u32 a0, .slice A l.length c], .int .i64 m] w fun e w' => e = .returned (.int .i64 r) ∧ Below w.heap.size w w' := by
  have hs : (l.length : Int) ≤ 8796093022208 := by
    unfold spans_Find.f at h; split at h
    · assumption
    · cases h
  have hr' : jQ l m = r := by
    unfold spans_Find.f at h; rw [if_pos hs] at h; exact Option.some.inj h
  clear h
  have HL := iC.mk hr
  have HR := iC.mk hr'
  clear hr hr'
  refine (callsIn_wide (n := 6)).1 ?_
  refine callsIn_of_wp_marks Try.func35 rfl trivial ?_ rfl
  simp only [Try.ntmps35, List.size_toArray, List.length_cons, List.length_nil, Nat.reduceAdd, Nat.reduceSub, Array.replicate_succ, Array.replicate_zero, List.push_toArray, List.append_toArray, List.nil_append, List.cons_append]
  gi_wp2
  refine ⟨trivial, ?_⟩
  refine ((callsIn_wide (n := 5)).2 (xO _ _ _ _)).mono ?_
  rintro e w1 ⟨rfl, rfl⟩
  obtain ⟨W0, hW0⟩ : ∃ W0, W0 = (((w.alloc (.cells #[.int .u32 a0, .slice A l.length c] 42)).alloc (.cells #[.int .i64 m] 3)).alloc (.cells #[.int .i64 0] 3)).alloc (.cells #[.slice A l.length c] 40) := ⟨_, rfl⟩
  have hsz : W0.heap.size = w.heap.size + 4 := by rw [hW0]; simp
  have hB0 : Below w.heap.size w W0 := by rw [hW0]; (repeat (first | exact Below.refl _ _ | apply iF | apply kD | apply iD | apply below_bytesWorld | (refine iE ?_ (by first | assumption | omega)) | refine iK ?_ (by assumption)))
  have hx1 : Boxed W0 (w.heap.size + 1) 3 (.int .i64 m) := by rw [hW0]; exact mD (mD (lM (by simp)))
  have hx2 : Boxed W0 (w.heap.size + 1 + 1) 3 (.int .i64 0) := by rw [hW0]; exact mD (lM (by simp))
  have hx3 : W0.heap[w.heap.size + 1 + 1 + 1]? = some (.cells #[.slice A l.length c] 40 (0, 0)) := by rw [hW0]; exact lM (by simp)
  gi_wp2
  rw [← hW0]
  clear hW0
  refine wpIn_rangeFunc_ownH rfl (by decide) (gf := 87) (lb := #[.pointer (some ⟨w.heap.size + 1 + 1 + 1, 0, none⟩)]) rfl trivial (enters_of Try.func87 (by kernel_rfl) rfl)
    (rP (6 - 1) (by decide) (w.heap.size + 1 + 1 + 1) 40 (0, 0) A c l w W0 HL.out hs hB0 hx3)
    (fun h k => ⟨h.1.trans k.1, k.2.trans h.2⟩)
    (fun W q o o' hle hl h1 h2 => ⟨belowK_b (w := w) (by omega) W q _ o' (by omega) hl h1 h2, World.putObj_heap_other (by omega)⟩)
    (Below.refl _ _) (fun _ => rfl)
    (fun pre W => ((((∀ x ∈ pre, m < x.2.f0) ∧ Boxed W (w.heap.size + 1 + 1) 3 (.int .i64 0)) ∧ Boxed W (w.heap.size + 1) 3 (.int .i64 m)) ∧ Boxed W (w.heap.size + 1 + 1 + 1) 40 (.slice A l.length c)) ∧ Below w.heap.size w W)
    (fun c pre W => ((c = .ret ∧ Hit m pre) ∧ Boxed W (w.heap.size + 1 + 1) 3 (.int .i64 (xI pre))) ∧ Below w.heap.size w W)
    (OwnFrom.and (OwnFrom.and (OwnFrom.and (OwnFrom.and (ownFrom_pure _ _) (Own.from (boxed_own _ _ _) _)) (Own.from (boxed_own _ _ _) _)) (Own.from (boxed_own _ _ _) _)) (ownFrom_below (Nat.le_refl _) (by omega)))
    (fun c => OwnFrom.and (OwnFrom.and (ownFrom_pure _ _) (Own.from (boxed_own _ _ (fun pre => .int .i64 (xI pre))) _)) (ownFrom_below (Nat.le_refl _) (by omega)))
    ⟨⟨⟨⟨by simp, hx2⟩, hx1⟩, hx3⟩, hB0⟩
    (fun x a' W => ∃ Bx, w.heap.size + 1 + 1 + 1 < Bx ∧ Box2 W Bx x.2 ∧ a' = { tmps := #[.agg #[.int .u32 a0, .slice A l.length c], .int .i64 m, .pointer (some ⟨w.heap.size, 0, none⟩), .pointer (some ⟨w.heap.size + 1, 0, none⟩), .pointer (some ⟨w.heap.size + 1 + 1, 0, none⟩), undef, .pointer (some ⟨Bx, 0, none⟩), .pointer (some ⟨w.heap.size, 1, none⟩), .slice A l.length c, .func (.func 87) #[] #[.pointer (some ⟨w.heap.size + 1 + 1 + 1, 0, none⟩)], .int .i64 x.1, .agg #[.int .i64 x.2.f0, .int .i64 x.2.f1], undef, undef, undef, undef, undef, undef], defers := [] })
    (fun x a' _ X Y row hs hg hr => by obtain ⟨Bx, e1, e2, e3⟩ := hs; exact ⟨Bx, e1, Box2.kept e2 hg (fun r e => (hr r e).2), e3⟩)
    ?assign ?body ?done ?stop
  case assign =>
    rintro lp pre x W K ⟨⟨⟨⟨hp, b2⟩, b1⟩, b3⟩, hB⟩ hK
    simp only [yJ]
    gi_wp2
    exact hK _ _ ((KeepsOthers.alloc _ _).from _) ⟨(Below.refl _ W).alloc hB.size _, Below.heap_alloc _ _ _ b3.lt⟩ ⟨⟨⟨⟨hp, b2.alloc _⟩, b1.alloc _⟩, b3.alloc _⟩, hB.alloc hB.size _⟩ ⟨W.heap.size, b3.lt, lM (by simp), rfl⟩
  case body =>
    rintro lp pre x a' W hl hr ⟨⟨⟨⟨hp, b2⟩, b1⟩, b3⟩, hB⟩ ⟨Bx, hBx, bX, rfl⟩ hlt
    have c1 := b1.cell
    have f2 := b2.frozen
    have c2 := b2.cell
    have cX0 : W.cell? ⟨Bx, 0, none⟩ = some (.int .i64 x.2.f0) := by simp [World.cell?, show W.heap[Bx]? = _ from bX]
    have cX1 : W.cell? ⟨Bx, 1, none⟩ = some (.int .i64 x.2.f1) := by simp [World.cell?, show W.heap[Bx]? = _ from bX]
    gi_wp2
    · rename_i hxy
      exact ⟨(KeepsOthers.setCell _ _ _).from _, ⟨⟨rfl, pre, x, rfl, hp, by simpa using hxy⟩, by rw [oC]; exact b2.set _⟩, hB.setCell (p := ⟨w.heap.size + 1 + 1, 0, none⟩) (by simp; omega) _⟩
    · rename_i hxy
      exact ⟨KeepsFrom.refl _ _, ⟨Below.refl _ _, rfl⟩, ⟨⟨⟨fun z hz => (List.mem_append.1 hz).elim (hp z) (fun e => by simp at e; subst e; simpa using hxy), b2⟩, b1⟩, b3⟩, hB⟩
  case done =>
    rintro D xs W hD hx ⟨⟨⟨⟨hp, b2⟩, b1⟩, b3⟩, hB⟩ hK
    have c2 := b2.cell
    have f2 := b2.frozen
    gi_wp2
    have hK' := (KeepsOthers.setCell W ⟨w.heap.size + 1 + 1, 0, none⟩ (.int .i64 (-1))).same D _ hK rfl
    refine ⟨by simp, .inl ⟨_, _, rfl, run_takeDeferred hK', ?_⟩⟩
    have hc5 := cell_kept (b2.set (.int .i64 (-1))).cell (grownBy_putObj' _ D (.deferred none)) (fun r e => by cases e; exact ⟨_, hK', rfl⟩)
    refine ⟨.int .i64 (-1), ?_, by rw [← HR.out, rQ l m (by rw [← hx]; exact hp)], (hB.setCell (p := ⟨w.heap.size + 1 + 1, 0, none⟩) (by simp; omega) _).trans (belowK_b (w := w) (Nat.le_refl _) _ D _ _ (by omega) hK' rfl rfl)⟩
    simp [results, Try.f35, go_sem, hc5]
  case stop =>
    rintro D c' pre W hD ⟨k, hk, hpre⟩ ⟨⟨⟨rfl, hh⟩, b2⟩, hB⟩ hK
    obtain ⟨p0, x, rfl, h1, h2⟩ := hh
    rw [oC] at b2
    gi_wp2
    refine ⟨by simp, .inl ⟨_, _, rfl, run_takeDeferred hK, ?_⟩⟩
    have hc5 := cell_kept b2.cell (grownBy_putObj' _ D (.deferred none)) (fun r e => by cases e; exact ⟨_, hK, rfl⟩)
    refine ⟨.int .i64 x.2.f1, ?_, by rw [← HR.out, rV l m p0 x k hk hpre h1 h2], hB.trans (belowK_b (w := w) (Nat.le_refl _) W D _ _ (by omega) hK rfl rfl)⟩
    simp [results, Try.f35, go_sem, hc5]
end Go.Proofs.Ytbpdejbkfpkphaa.K
end

section
namespace Go.Proofs
open Go.Shelf
def Try.keysA_ren : Go.Shelf.Ren := ⟨fun | 7 => 60 | 10 => 82 | n => n, fun | 23 => 104 | 26 => 3 | 3 => 3 | 28 => 109 | 0 => 0 | 27 => 108 | 33 => 103 | 4 => 4 | n => n, fun | n => n⟩
theorem Try.keysA : Go.Proofs.SlLaysZI.n7 Try.prog Try.keysA_ren := {
  mixed := by kernel_rfl
  f7 := ⟨Try.f60.name, by decide, Try.func60.trans (congrArg some (by kernel_rfl))⟩
  f10 := ⟨Try.f82.name, by decide, Try.func82.trans (congrArg some (by kernel_rfl))⟩
  t0 := Try.underlying0
  a0 := Try.isAgg0
  z0 := Try.sizeOf0
  v0 := Try.zeroValue0
  t4 := Try.underlying4
  a4 := Try.isAgg4
  z4 := Try.sizeOf4
  v4 := Try.zeroValue4
  t23 := Try.underlying104
  a23 := Try.isAgg104
  z23 := Try.sizeOf104
  v23 := Try.zeroValue104
  t26 := Try.underlying3
  a26 := Try.isAgg3
  z26 := Try.sizeOf3
  v26 := Try.zeroValue3
  t27 := Try.underlying108
  a27 := Try.isAgg108
  z27 := Try.sizeOf108
  v27 := Try.zeroValue108
  t28 := Try.underlying109
  a28 := Try.isAgg109
  z28 := Try.sizeOf109
  v28 := Try.zeroValue109
  t33 := Try.underlying103
  a33 := Try.isAgg103
  z33 := Try.sizeOf103
  v33 := Try.zeroValue103 }
def Try.sortedA_ren : Go.Shelf.Ren := ⟨fun | 6 => 59 | 8 => 80 | 9 => 81 | 11 => 102 | 13 => 104 | 12 => 103 | 23 => 119 | 24 => 120 | 14 => 110 | 15 => 111 | 16 => 112 | 17 => 113 | 18 => 114 | 19 => 115 | 20 => 116 | 21 => 117 | 22 => 118 | 25 => 123 | 26 => 124 | 27 => 125 | 28 => 126 | 29 => 127 | 30 => 128 | 31 => 138 | n => n, fun | 26 => 3 | 28 => 109 | 24 => 25 | 0 => 0 | 3 => 3 | 37 => 128 | 48 => 28 | 50 => 138 | 4 => 4 | 40 => 158 | 39 => 157 | 45 => 162 | 5 => 5 | 9 => 9 | 51 => 167 | 55 => 171 | 57 => 179 | 58 => 180 | 33 => 103 | n => n, fun | n => n⟩
theorem Try.sortedA : Go.Proofs.SlLaysZI.n6 Try.prog Try.sortedA_ren := {
  mixed := by kernel_rfl
  f6 := ⟨Try.f59.name, by decide, Try.func59.trans (congrArg some (by kernel_rfl))⟩
  f8 := ⟨Try.f80.name, by decide, Try.func80.trans (congrArg some (by kernel_rfl))⟩
  f11 := ⟨Try.f102.name, by decide, Try.func102.trans (congrArg some (by kernel_rfl))⟩
  t0 := Try.underlying0
  a0 := Try.isAgg0
  z0 := Try.sizeOf0
  v0 := Try.zeroValue0
  t24 := Try.underlying25
  a24 := Try.isAgg25
  z24 := Try.sizeOf25
  v24 := Try.zeroValue25
  t26 := Try.underlying3
  a26 := Try.isAgg3
  z26 := Try.sizeOf3
  v26 := Try.zeroValue3
  t28 := Try.underlying109
  a28 := Try.isAgg109
  z28 := Try.sizeOf109
  v28 := Try.zeroValue109
  i26 := by kernel_rfl }
def Try.sortA_ren : Go.Shelf.Ren := ⟨fun | 5 => 81 | 8 => 104 | 7 => 103 | 19 => 119 | 20 => 120 | 10 => 110 | 11 => 111 | 12 => 112 | 13 => 113 | 14 => 114 | 15 => 115 | 16 => 116 | 17 => 117 | 18 => 118 | 30 => 123 | 31 => 124 | 32 => 125 | 33 => 126 | 34 => 127 | 35 => 128 | 40 => 138 | n => n, fun | 23 => 25 | 25 => 3 | 3 => 3 | 32 => 128 | 22 => 25 | 0 => 0 | 44 => 28 | 46 => 138 | 4 => 4 | 36 => 158 | 35 => 157 | 41 => 162 | 5 => 5 | 9 => 9 | 53 => 167 | 57 => 171 | 63 => 179 | 64 => 180 | n => n, fun | n => n⟩
theorem Try.sortA : Go.Proofs.SlLaysM.n5 Try.prog Try.sortA_ren := {
  mixed := by kernel_rfl
  f5 := ⟨Try.f81.name, by decide, Try.func81.trans (congrArg some (by kernel_rfl))⟩
  f7 := ⟨Try.f103.name, by decide, Try.func103.trans (congrArg some (by kernel_rfl))⟩
  f8 := Try.func104.trans (congrArg some (by kernel_rfl))
  f10 := ⟨Try.f110.name, by decide, Try.func110.trans (congrArg some (by kernel_rfl))⟩
  f11 := ⟨Try.f111.name, by decide, Try.func111.trans (congrArg some (by kernel_rfl))⟩
  f12 := ⟨Try.f112.name, by decide, Try.func112.trans (congrArg some (by kernel_rfl))⟩
  f13 := ⟨Try.f113.name, by decide, Try.func113.trans (congrArg some (by kernel_rfl))⟩
  f14 := ⟨Try.f114.name, by decide, Try.func114.trans (congrArg some (by kernel_rfl))⟩
  f15 := ⟨Try.f115.name, by decide, Try.func115.trans (congrArg some (by kernel_rfl))⟩
  f16 := ⟨Try.f116.name, by decide, Try.func116.trans (congrArg some (by kernel_rfl))⟩
  f17 := ⟨Try.f117.name, by decide, Try.func117.trans (congrArg some (by kernel_rfl))⟩
  f18 := ⟨Try.f118.name, by decide, Try.func118.trans (congrArg some (by kernel_rfl))⟩
  f19 := Try.func119.trans (congrArg some (by kernel_rfl))
  f20 := Try.func120.trans (congrArg some (by kernel_rfl))
  f30 := ⟨Try.f123.name, by decide, Try.func123.trans (congrArg some (by kernel_rfl))⟩
  f31 := Try.func124.trans (congrArg some (by kernel_rfl))
  f32 := Try.func125.trans (congrArg some (by kernel_rfl))
  f33 := ⟨Try.f126.name, by decide, Try.func126.trans (congrArg some (by kernel_rfl))⟩
  f34 := ⟨Try.f127.name, by decide, Try.func127.trans (congrArg some (by kernel_rfl))⟩
  f35 := ⟨Try.f128.name, by decide, Try.func128.trans (congrArg some (by kernel_rfl))⟩
  f40 := ⟨Try.f138.name, by decide, Try.func138.trans (congrArg some (by kernel_rfl))⟩
  t0 := Try.underlying0
  a0 := Try.isAgg0
  z0 := Try.sizeOf0
  v0 := Try.zeroValue0
  t3 := Try.underlying3
  a3 := Try.isAgg3
  z3 := Try.sizeOf3
  v3 := Try.zeroValue3
  t4 := Try.underlying4
  a4 := Try.isAgg4
  z4 := Try.sizeOf4
  v4 := Try.zeroValue4
  t5 := Try.underlying5
  a5 := Try.isAgg5
  z5 := Try.sizeOf5
  v5 := Try.zeroValue5
  t9 := Try.underlying9
  a9 := Try.isAgg9
  z9 := Try.sizeOf9
  v9 := Try.zeroValue9
  t22 := Try.underlying25
  a22 := Try.isAgg25
  z22 := Try.sizeOf25
  v22 := Try.zeroValue25
  t23 := Try.underlying25
  a23 := Try.isAgg25
  z23 := Try.sizeOf25
  v23 := Try.zeroValue25
  t25 := Try.underlying3
  a25 := Try.isAgg3
  z25 := Try.sizeOf3
  v25 := Try.zeroValue3
  t32 := Try.underlying128
  a32 := Try.isAgg128
  z32 := Try.sizeOf128
  v32 := Try.zeroValue128
  t35 := Try.underlying157
  a35 := Try.isAgg157
  z35 := Try.sizeOf157
  v35 := Try.zeroValue157
  t36 := Try.underlying158
  a36 := Try.isAgg158
  z36 := Try.sizeOf158
  v36 := Try.zeroValue158
  t41 := Try.underlying162
  a41 := Try.isAgg162
  z41 := Try.sizeOf162
  v41 := Try.zeroValue162
  t44 := Try.underlying28
  a44 := Try.isAgg28
  z44 := Try.sizeOf28
  v44 := Try.zeroValue28
  t46 := Try.underlying138
  a46 := Try.isAgg138
  z46 := Try.sizeOf138
  v46 := Try.zeroValue138
  t53 := Try.underlying167
  a53 := Try.isAgg167
  z53 := Try.sizeOf167
  v53 := Try.zeroValue167
  t57 := Try.underlying171
  a57 := Try.isAgg171
  z57 := Try.sizeOf171
  v57 := Try.zeroValue171
  t63 := Try.underlying179
  a63 := Try.isAgg179
  z63 := Try.sizeOf179
  v63 := Try.zeroValue179
  t64 := Try.underlying180
  a64 := Try.isAgg180
  z64 := Try.sizeOf180
  v64 := Try.zeroValue180 }
end Go.Proofs
end

section
namespace Go.Proofs
open Go.RowKit Go.Maps Go.Sort Go.Shelf
/-- slices.Sort's two contracts here. -/
theorem Try.sortsA (m : Nat) : AnyZI.SortsIn Try.prog Try.sortedA_ren Fence.wide m :=
  ⟨fun blk off cap ss W hH hblk hsz => callsIn_wide.2 (AnyM.slices_Sort_int Try.sortA blk off cap ss W hH hblk hsz),
   fun p cap W => callsIn_wide.2 (AnyM.slices_Sort_int_none Try.sortA p cap W)⟩
/-- maps.Keys: the map is boxed, the function captures the box. -/
theorem Try.keys_any (mb : Option Nat) (W : World) : Calls Try.prog 60 #[.map mb] W fun e w' => e = .returned (.func (.func 82) #[] #[.pointer (some ⟨W.heap.size, 0, none⟩)]) ∧ w' = W.alloc (.cells #[.map mb] 104) :=
  (callsIn_wide (n := 5)).1 (AnyZI.keys_in Try.keysA Fence.wide 5 trivial rfl mb W)
/-- slices.Sorted of the keys of a map that is not nil. -/
theorem Try.sorted_any {H : Type} (b nn : Nat) (D0 : DataW H) (R : Value → Option (DataW H × List MemPlace)) (w : World) (hown : w.ownsMap Try.prog 3 R b nn D0) (hmax : Maps.size D0 ≤ maxLen) (hbytes : Maps.size D0 * 8 ≤ 140737488355328) :
    Calls Try.prog 59 #[.func (.func 82) #[] #[.pointer (some ⟨w.heap.size, 0, none⟩)]] (w.alloc (.cells #[.map (some b)] 104)) fun e w' => ∃ (v : Value) (ss : List Int), e = .returned v ∧ ss.Perm (intKeys D0) ∧
      w'.ownsRow (w.alloc (.cells #[.map (some b)] 104)).heap.size 3 1 v ss.length ((ss.mergeSort (fun x y => decide (x ≤ y))).map encZ) ∧ (v = .slice none 0 0 ↔ ss = []) ∧ Below (w.alloc (.cells #[.map (some b)] 104)).heap.size (w.alloc (.cells #[.map (some b)] 104)) w' := by
  have hbl := hown.lt
  have hseq : SeqGives Fence.wide 2 Try.prog 82 #[.pointer (some ⟨w.heap.size, 0, none⟩)] encZ (fun ss => ss.Perm (intKeys D0)) (Maps.size D0) (w.alloc (.cells #[.map (some b)] 104)) :=
    AnyZI.keys_gives (ρ := Try.keysA_ren) { Try.keysA with } Fence.wide _ trivial rfl (by omega) w.heap.size b nn D0 _ (by simp) (by simp) (by
      obtain ⟨es, clock, hb, Ft, hs, hD⟩ := hown
      exact ⟨es, clock, (Below.heap_alloc _ _ b hbl).trans hb, Ft, hs, hD⟩)
  have cS := AnyZI.sorted_in Try.sortedA Fence.wide 5 trivial trivial trivial trivial rfl (by omega) (Try.sortsA _) (enters_of Try.func81 (by kernel_rfl) rfl) 82 #[.pointer (some ⟨w.heap.size, 0, none⟩)] trivial (enters_of Try.func82 (by kernel_rfl) rfl) _ _ hmax hbytes _ hseq
  exact (callsIn_wide (n := 5)).1 cS
end Go.Proofs
end

section
namespace Go.Proofs.Ytbpdejbkfpkphaa.K
open Go Go.RowKit Go.Maps Go.Proofs.YtbpdejbkfpkphaaW.PrintWords Go.Proofs.YtbpdejbkfpkphaaW.PrintLast Go.Proofs.YtbpdejbkfpkphaaW.PrintMore Go.Proofs.Ytbpdejbkfpkphaa.My
attribute [local go_sem] Oper.semAt_some
theorem yL (x y : Int) : Builtin.max2 (.int .i64 x) (.int .i64 y) = pure (.int .i64 (mx x y)) := jU _ _ x y
theorem yX (x y : Int) : Builtin.min2 (.int .i64 x) (.int .i64 y) = pure (.int .i64 (mn x y)) := jT _ _ x y
attribute [local go_sem] yL yX jZ jY
/-- Is u a node of one of lo .. hi - 1? -/
def rU (l : List TSp) (lo hi : Int) (x : Int) : Bool := (List.range (hi - lo).toNat).any fun i => decide (jQ l (lo + (i : Nat)) = x)
abbrev loN (a : Int) : Int := mx a 0
abbrev hiN (b : Int) : Int := mn b 10000
def lH (l : List TSp) (a b : Int) : List Int := ([0, 1, 2, 3, 4, 5] : List Int).filter (rU l (loN a) (hiN b))
theorem mG (l : List TSp) (lo hi x : Int) : rU l lo hi x = true ↔ ∃ u, lo ≤ u ∧ u < hi ∧ jQ l u = x := by
  simp only [rU, List.any_eq_true, List.mem_range, decide_eq_true_eq]
  constructor
  · rintro ⟨i, hi, rfl⟩
    exact ⟨lo + i, by omega, by omega, rfl⟩
  · rintro ⟨u, h1, h2, rfl⟩
    exact ⟨(u - lo).toNat, by omega, by congr 1; omega⟩
/-- The map's keys: the nodes found so far. -/
def KeyI (D : DataW Nat) : Prop := ∃ es, D = .map es ∧ es.Pairwise (fun p q => p.1 ≠ q.1) ∧ ∀ p ∈ es, ∃ x, p.1 = .int .i64 x
def mP (l : List TSp) (lo v : Int) (D : DataW Nat) : Prop := KeyI D ∧ ∀ x : Int, has D (.int .i64 x) = true ↔ (0 ≤ x ∧ x < 6) ∧ ∃ u, lo ≤ u ∧ u < v ∧ jQ l u = x
theorem isKey (x : Int) : WideAt.IsKeyLit (.int .i64 x) := by simp [WideAt.IsKeyLit]
theorem KeyI.put {D : DataW Nat} (h : KeyI D) (x : Int) (d : DataW Nat) : KeyI (D.put (.int .i64 x) d) := by
  obtain ⟨es, rfl, h1, h2⟩ := h
  obtain ⟨es', he, h3⟩ := (show Tidy (.map es : DataW Nat) from ⟨es, rfl, h1⟩).put (isKey x) d
  refine ⟨es', he, h3, fun p hp => ?_⟩
  have he' : (DataW.map es : DataW Nat).put (.int .i64 x) d = .map (DataW.insert (.int .i64 x, d) (es.filter fun p => !p.1.sameKey (.int .i64 x))) := rfl
  rw [he'] at he
  cases he
  have := (WideShapes.insert_perm _ _).mem_iff.1 hp
  rcases List.mem_cons.1 this with rfl | hm
  · exact ⟨x, rfl⟩
  · exact h2 p (List.mem_filter.1 hm).1
theorem mP.zero (l : List TSp) (lo : Int) : mP l lo lo (.map []) := ⟨⟨[], rfl, List.Pairwise.nil, by simp⟩, fun x => ⟨fun h => by simp [has] at h, fun ⟨_, u, h1, h2, _⟩ => absurd h1 (by omega)⟩⟩
theorem mP.skip {l : List TSp} {lo v : Int} {D : DataW Nat} (h : mP l lo v D) (hn : ¬ (0 ≤ jQ l v ∧ jQ l v < 6)) : mP l lo (v + 1) D := by
  refine ⟨h.1, fun x => (h.2 x).trans ⟨fun ⟨a, u, b, c, d⟩ => ⟨a, u, b, by omega, d⟩, fun ⟨a, u, b, c, d⟩ => ⟨a, u, b, ?_, d⟩⟩⟩
  by_cases he : u = v
  · subst he; rw [d] at hn; exact absurd a hn
  · omega
theorem mP.step {l : List TSp} {lo v : Int} {D : DataW Nat} (h : mP l lo v D) (hlo : lo ≤ v) (hn : 0 ≤ jQ l v ∧ jQ l v < 6) (d : DataW Nat) : mP l lo (v + 1) (D.put (.int .i64 (jQ l v)) d) := by
  have hm : IsMap D := by obtain ⟨es, rfl, _⟩ := h.1; exact ⟨es, rfl⟩
  refine ⟨h.1.put _ _, fun x => ?_⟩
  by_cases he : x = jQ l v
  · subst he
    rw [has_put_same hm (isKey _)]
    exact ⟨fun _ => ⟨hn, v, hlo, by omega, rfl⟩, fun _ => rfl⟩
  · rw [has_put_other (by intro e; injection e with _ e; exact he e), h.2 x]
    refine ⟨fun ⟨a, u, b, c, d⟩ => ⟨a, u, b, by omega, d⟩, fun ⟨a, u, b, c, d⟩ => ⟨a, u, b, ?_, d⟩⟩
    by_cases he2 : u = v
    · subst he2; exact absurd d.symm he
    · omega
theorem mP.sorted {l : List TSp} {a b v : Int} {D : DataW Nat} (h : mP l (loN a) v D) (hv : ∀ u, loN a ≤ u → (u < v ↔ u < hiN b)) {ss : List Int} (hp : ss.Perm (intKeys D)) : ss.mergeSort (fun x y => decide (x ≤ y)) = lH l a b := by
  obtain ⟨⟨es, rfl, h1, h2⟩, h3⟩ := h
  have hnd : (lH l a b).Nodup := List.Pairwise.filter _ (by decide)
  have hm : ∀ x, x ∈ lH l a b ↔ has (DataW.map es : DataW Nat) (.int .i64 x) = true := by
    intro x
    rw [h3 x]
    simp only [lH, List.mem_filter, mG]
    constructor
    · rintro ⟨hx, u, h4, h5, h6⟩
      refine ⟨by simp at hx; omega, u, h4, (hv u h4).2 h5, h6⟩
    · rintro ⟨hx, u, h4, h5, h6⟩
      refine ⟨by simp; omega, u, h4, (hv u h4).1 h5, h6⟩
  have hq := perm_intKeys h1 h2 hnd hm
  have h5 := mergeSort_of_perm_i (hp.trans hq.symm)
  rw [show (ss.mergeSort fun x y => decide (x ≤ y)) = ss.mergeSort leI from rfl, h5]
  refine List.mergeSort_of_pairwise (le := leI) ?_
  exact List.Pairwise.filter _ (by decide)
theorem uN {w w' : World} {b n : Nat} {D : DataW Nat} (h : w.ownsMap Try.prog 3 (plainElem Try.prog 3) b n D) (hb : Below w.heap.size w w') : w'.ownsMap Try.prog 3 (plainElem Try.prog 3) b n D := by
  have := h.lt
  obtain ⟨es, clock, h1, F, hs, hD⟩ := h
  exact ⟨es, clock, (hb.block b this).trans h1, F, hs, hD⟩
theorem xN {x : Int} (h0 : 0 ≤ x) (h1 : x < 6) : (Lit.int .i64 x).wf = true := by
  have := wrap64_wf x
  rwa [show wrap64 x = x by unfold wrap64; omega] at this
theorem law3 : Keyed Try.prog 3 := int_keyed Try.underlying3
theorem zero3 (w : World) : (zeroValue 3).run Try.prog w = .ok (.int .i64 0) w := by kernel_rfl
theorem mx0 (a : Int) : 0 ≤ mx a 0 := by unfold mx; split <;> omega
theorem mn1 (b : Int) : mn b 10000 ≤ 10000 := by unfold mn; split <;> omega
def spans_Nodes.f (a0 : Int) (l : List TSp) (a b : Int) : Option (List Int) := if (l.length : Int) ≤ 8796093022208 then some (lH l a b) else none
set_option maxRecDepth 100000 in
set_option maxHeartbeats 4000000 in
theorem spans_Nodes.calls (a0 : Int) (A : Option Addr) (c : Nat) (l : List TSp) (a b : Int) (r : List Int) (w : World) (hr : Kd.C k60 w A l.length l) (hc : l.length ≤ c) (h : spans_Nodes.f a0 l a b = some r) :
    Calls Try.prog 28 #[.agg #[.int .u32 a0, .slice A l.length c], .int .i64 a, .int .i64 b] w fun e w' => ∃ v0_, e = .returned v0_ ∧ (Kd.int .i64).R 3 w' w.heap.size (fun _ => True) v0_ r ∧ Below w.heap.size w w' := by
  have hs : (l.length : Int) ≤ 8796093022208 := by
    unfold spans_Nodes.f at h; split at h
    · assumption
    · cases h
  have hr' : lH l a b = r := by
    unfold spans_Nodes.f at h; rw [if_pos hs] at h; exact Option.some.inj h
  clear h
  have HL := iC.mk hr
  have HR := iC.mk hr'
  clear hr hr'
  have hmm := @run_makeMap Try.prog
  have HX0 := iC.mk (mx0 a)
  have HN1 := iC.mk (mn1 b)
  go_enter Try.func28, Try.ntmps28
  go_wp2
  obtain ⟨lo, hlo⟩ : ∃ lo, lo = mx a 0 := ⟨_, rfl⟩
  rw [← hlo] at HX0 ⊢
  have HLO := iC.mk hlo
  clear hlo
  go_loopw [8] (fun p wr => ∃ (v : Int) (nn : Nat) (D : DataW Nat), p = .int .i64 v ∧ lo ≤ v ∧ (v ≤ mn b 10000 ∨ v = lo) ∧ (nn : Int) ≤ v - lo ∧ iC (wr.ownsMap Try.prog 3 (plainElem Try.prog 3) (w.heap.size + 1) nn D) ∧ iC (mP l lo v D) ∧ iC (Below w.heap.size w wr) ∧ iC (wr.heap[w.heap.size]? = some (.cells #[.int .u32 a0, .slice A l.length c] 42 (0, 0)))) (fun p _ => (mn b 10000 - intOf p).toNat)
  case atStart => exact ⟨lo, 0, .map [], rfl, Int.le_refl _, .inr rfl, by omega, ⟨by have := World.ownsMap_made (H := Nat) (w.alloc (.cells #[.int .u32 a0, .slice A l.length c] 42)) Try.prog 3 (plainElem Try.prog 3); rwa [World.size_alloc] at this⟩, ⟨mP.zero _ _⟩, ⟨bel_⟩, ⟨mD (lM rfl)⟩⟩
  case round =>
    obtain ⟨v, nn, D, rfl, hlv, hvb, hnn, HO, HS, HB, HM⟩ := hrel
    have hc0 : wr.cell? ⟨w.heap.size, 0, none⟩ = some (.int .u32 a0) := by simp [World.cell?, HM.out]
    have hc1 : wr.cell? ⟨w.heap.size, 1, none⟩ = some (.slice A l.length c) := by simp [World.cell?, HM.out]
    by_cases hlt : v < mn b 10000
    · have hv0 : 0 ≤ v := by have := HX0.out; omega
      have hv1 : v < 10000 := by have := HN1.out; omega
      obtain ⟨x, hx⟩ : ∃ x, x = jQ l v := ⟨_, rfl⟩
      have hw : wrap64 (v + 1) = v + 1 := by unfold wrap64; omega
      have hcall := spans_Find.calls a0 A c l v x wr (Kd.C_below HL.out HB.out) hc (by rw [hx]; simp [spans_Find.f, hs])
      have HX := iC.mk hx
      have HV := iC.mk (And.intro hv0 hv1)
      clear hx hv0 hv1
      by_cases h6 : 0 ≤ x ∧ x < 6
      · obtain ⟨h60, h61⟩ := h6
        have HKEY := iC.mk (keyOf_int_mk Try.underlying3 (xN h60 h61))
        go_wp2_with (first
          | (go_at_call 35; refine hcall.mono ?_; rintro e w2 ⟨rfl, hb2⟩; have HO2 := iC.mk (uN HO.out hb2); have HB2 := iC.mk (HB.out.trans (hb2.mono HB.out.size)); have HM2 := iC.mk (mV hb2 HM.out); clear hb2 hcall hc0 hc1)
          | (at_lookup; refine wpList_lookup_own_int _ rfl _ _ 104 rfl 3 3 .i64 law3 Try.underlying104 Try.underlying3 (zero3 _) (w.heap.size + 1) nn D rfl HO2.out _ _ rfl HKEY.out ?_; intro cc hat hwc; clear hat)
          | (at_mapUpdate; refine wpList_mapUpdate_own _ rfl _ _ _ 104 rfl 3 3 law3 Try.underlying104 _ (w.heap.size + 1) nn D rfl HO2.out (by have := HV.out; unfold maxLen; have := HX0.out; omega) _ _ _ rfl rfl HKEY.out _ [] (plainElem_int Try.underlying3 (wrap64_wf _)) ?_; intro w3 hown1 hgrow1; have HO3 := iC.mk hown1; have HB3 := iC.mk (HB2.out.grown hgrow1 HB2.out.size (fun j hj => by cases hj; omega)); have HM3 := iC.mk ((hgrow1.block w.heap.size (jE HM2.out) (by simp)).trans HM2.out); clear hown1 hgrow1))
        go_roundw
        case rel => exact ⟨v + 1, nn + 1, _, by rw [hw], by omega, by omega, by omega, HO3, ⟨HX.out ▸ HS.out.step hlv (HX.out ▸ ⟨h60, h61⟩) _⟩, HB3, HM3⟩
        case measure => simp [intOf, hw]; omega
      · go_wp2_with (go_at_call 35; refine hcall.mono ?_; rintro e w2 ⟨rfl, hb2⟩; have HO2 := iC.mk (uN HO.out hb2); have HB2 := iC.mk (HB.out.trans (hb2.mono HB.out.size)); have HM2 := iC.mk (mV hb2 HM.out); clear hb2 hcall hc0 hc1)
        all_goals go_roundw
        all_goals first
          | exact ⟨v + 1, nn, D, by rw [hw], by omega, by omega, by omega, HO2, ⟨HS.out.skip (HX.out ▸ h6)⟩, HB2, HM2⟩
          | (simp [intOf, hw]; omega)
    · have hsz := HO.out.size_le
      have hnn2 : nn ≤ 10000 := by have := HN1.out; have := HX0.out; omega
      have hsort := Try.sorted_any (w.heap.size + 1) nn D (plainElem Try.prog 3) wr HO.out (by unfold maxLen; omega) (by omega)
      have hfin : ∀ ss : List Int, ss.Perm (intKeys D) → ss.mergeSort (fun x y => decide (x ≤ y)) = r := fun ss hp => by
        rw [← HR.out]
        exact mP.sorted (a := a) (b := b) (HLO.out ▸ HS.out) (fun u hu => by have := HLO.out; change mx a 0 ≤ u at hu; show u < v ↔ u < mn b 10000; omega) hp
      have HFIN := iC.mk hfin
      clear hfin hc0 hc1
      go_wp2_with (first
        | (go_at_call 60; refine (Try.keys_any _ _).mono ?_; rintro e w2 ⟨rfl, rfl⟩)
        | (go_at_call 59; refine hsort.mono ?_; rintro e w3 ⟨vv, ss, rfl, hS, hrow, hnil, hb⟩; rw [HFIN.out ss hS] at hrow; have hlen := hS.length_eq))
      go_ret
      have hle : ss.length = r.length := by rw [← HFIN.out ss hS, List.length_mergeSort]
      rw [hle] at hrow
      exact ⟨vv, rfl, Kd.R_lower (Kd.R_of_own hrow (fun _ _ => trivial)) (by simp; have := HB.out.size; omega), (HB.out.alloc HB.out.size _).trans (hb.mono (by simp; have := HB.out.size; omega))⟩
end Go.Proofs.Ytbpdejbkfpkphaa.K
end
