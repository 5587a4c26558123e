/- Parts of the proof, one behind the other: RefS, Buf, CodeL, CodeF, CodeE, K39, K40, K41, RefP, RefN. -/
import Derived.Test.YtgfkgppomaapiaaDoorQCodeDecodes4
import Derived.Shelf.LaysM
import Derived.Shelf.Bytes.Len
import Derived.Shelf.Bytes.TryGrow
import Derived.Shelf.Bytes.GrowSliceCatch
import Derived.Shelf.Bytes.GrowSlice
import Derived.Shelf.Bytes.Bytes
import Derived.Shelf.Bytes.GrowRow0Kept
import Derived.Shelf.Bytes.GrowRowKept
import Derived.Shelf.Bytes.GrowNilKept
import Derived.Shelf.Bytes.GrowKept
import Derived.Shelf.Bytes.WriteByteKept
import Derived.Ground.SlgfProg
import Derived.Shelf.SlicesE.IndexFunc
import Derived.Lib.OthersKept
import Derived.Lib.BufferKept
import Derived.Lib.BufferWrite
set_option linter.unusedVariables false
set_option linter.unusedSimpArgs false
section
namespace Go.Proofs.YtgfkgppomaapiaaDoor.K
open RowKit YtgfkgppomaapiaaDoorW.PrintWords YtgfkgppomaapiaaDoorW.PrintLast YtgfkgppomaapiaaDoorW.PrintMore My
theorem oV {α : Type} (d : α) (l : List α) (i : Int) (h : i.toNat < l.length) (h0 : 0 ≤ i) : l.drop i.toNat = l.getD i.toNat d :: l.drop (i + 1).toNat := by
  rw [List.drop_eq_getElem_cons h, show (i + 1).toNat = i.toNat + 1 by omega]
  congr 1
  rw [List.getD_eq_getElem?_getD, List.getElem?_eq_getElem h]
  rfl
theorem drop_end {α : Type} (l : List α) (i : Int) (h : ¬ i < (l.length : Int)) : l.drop i.toNat = [] := List.drop_of_length_le (by omega)
def xB (l : List Int) (i : Int) : Int := if 0 < i then rd l (i - 1) else -1
theorem OL (l : List Int) (hn : l.length ≤ 9223372036854775807) (d : Nat) : ∀ i : Int, 0 ≤ i → i ≤ l.length → (l.length : Int) - i = d → -1 ≤ xB l i → Ev (fun k => stratumref07_SoundNodes.l0 k l i) (lU (xB l i) (l.drop i.toNat)) := by
  induction d with
  | zero =>
    intro i h0 h1 hd hp
    refine Ev.step (f := fun _ => some true) (fun k => by simp only [stratumref07_SoundNodes.l0]; rw [if_neg (by omega)]) ?_
    rw [drop_end l i (by omega)]
    exact Ev.now _
  | succ d ih =>
    intro i h0 h1 hd hp
    have hlt : i < (l.length : Int) := by omega
    have hnext : xB l (i + 1) = rd l i := by unfold xB; rw [if_pos (by omega), show i + 1 - 1 = i by omega]
    rw [oV 0 l i (by omega) h0, lU, show l.getD i.toNat 0 = rd l i from rfl]
    by_cases c1 : rd l i < 0
    · refine Ev.step (f := fun _ => some false) (fun k => by simp only [stratumref07_SoundNodes.l0]; rw [if_pos hlt, if_pos h0, if_pos c1]) ?_
      rw [decide_eq_false (show ¬ xB l i < rd l i by omega)]
      exact Ev.now _
    by_cases c2 : rd l i > 5
    · refine Ev.step (f := fun _ => some false) (fun k => by simp only [stratumref07_SoundNodes.l0]; rw [if_pos hlt, if_pos h0, if_neg c1, if_pos c2]) ?_
      rw [decide_eq_false (show ¬ rd l i < 6 by omega), Bool.and_false]
      exact Ev.now _
    rw [decide_eq_true (show rd l i < 6 by omega), Bool.and_true]
    have hih := ih (i + 1) (by omega) (by omega) (by omega) (by rw [hnext]; omega)
    rw [hnext] at hih
    have hw := mQ h0 hlt hn
    by_cases c3 : 0 < i
    · have hw2 : wrap64 (i - 1) = i - 1 := by unfold wrap64; omega
      have hpi : xB l i = rd l (i - 1) := by unfold xB; rw [if_pos c3]
      rw [hpi]
      by_cases c4 : rd l i ≤ rd l (i - 1)
      · refine Ev.step (f := fun _ => some false) (fun k => by simp only [stratumref07_SoundNodes.l0]; rw [if_pos hlt, if_pos h0, if_neg c1, if_neg c2, if_pos c3, hw2, if_pos (by omega), if_pos (by omega), if_pos c4]) ?_
        rw [decide_eq_false (show ¬ rd l (i - 1) < rd l i by omega)]
        exact Ev.now _
      · refine Ev.step (f := fun k => stratumref07_SoundNodes.l0 k l (i + 1)) (fun k => by simp only [stratumref07_SoundNodes.l0]; rw [if_pos hlt, if_pos h0, if_neg c1, if_neg c2, if_pos c3, hw2, if_pos (by omega), if_pos (by omega), if_neg c4, hw]) ?_
        rw [decide_eq_true (show rd l (i - 1) < rd l i by omega), Bool.true_and]
        exact hih
    · refine Ev.step (f := fun k => stratumref07_SoundNodes.l0 k l (i + 1)) (fun k => by simp only [stratumref07_SoundNodes.l0]; rw [if_pos hlt, if_pos h0, if_neg c1, if_neg c2, if_neg c3, hw]) ?_
      have hpi : xB l i = -1 := by unfold xB; rw [if_neg c3]
      rw [hpi, decide_eq_true (show (-1 : Int) < rd l i by omega), Bool.true_and]
      exact hih
theorem yO (l : List Int) (hn : l.length ≤ 9223372036854775807) : Ev (fun k => stratumref07_SoundNodes.f k l) (lU (-1) l) :=
  OL l hn l.length 0 (by omega) (by omega) (by omega) (by unfold xB; rw [if_neg (by omega)]; omega)
def okV (v : Int) : Bool := decide (0 ≤ v) && decide (v ≤ 9999)
theorem NP (f : jO) : nR f = (f.f0.all okV && decide ((f.f0.length : Int) ≤ 4)) := by
  unfold nR
  rw [show decide (f.f0.length ≤ 4) = decide ((f.f0.length : Int) ≤ 4) from by rw [decide_eq_decide]; omega, Bool.and_comm]
  rfl
theorem TV (l : List jO) (i : Int) (h0 : 0 ≤ i) (hlt : i < l.length) (hn : l.length ≤ 9223372036854775807) (hk : (iV l i).f0.length ≤ 9223372036854775807) (R : Bool) (hR : Ev (fun k => stratumref07_SoundFacts.l0 k l (i + 1)) R) (d : Nat) : ∀ j : Int, 0 ≤ j → j ≤ (iV l i).f0.length → ((iV l i).f0.length : Int) - j = d →
    Ev (fun k => stratumref07_SoundFacts.l1 k l i j) (((iV l i).f0.drop j.toNat).all okV && decide (((iV l i).f0.length : Int) ≤ 4) && R) := by
  induction d with
  | zero =>
    intro j g0 g1 hd
    rw [drop_end _ j (by omega), List.all_nil, Bool.true_and]
    by_cases c1 : ((iV l i).f0.length : Int) > 4
    · refine Ev.step (f := fun _ => some false) (fun k => by simp only [stratumref07_SoundFacts.l1]; rw [if_pos h0, if_pos hlt, if_neg (by omega), if_pos c1]) ?_
      rw [decide_eq_false (by omega)]
      exact Ev.now _
    · refine Ev.step (f := fun k => stratumref07_SoundFacts.l0 k l (i + 1)) (fun k => by simp only [stratumref07_SoundFacts.l1]; rw [if_pos h0, if_pos hlt, if_neg (by omega), if_neg c1, mQ h0 hlt hn]) ?_
      rw [decide_eq_true (by omega), Bool.true_and]
      exact hR
  | succ d ih =>
    intro j g0 g1 hd
    have hj : j < ((iV l i).f0.length : Int) := by omega
    rw [oV 0 _ j (by omega) g0, List.all_cons, show (iV l i).f0.getD j.toNat 0 = rd (iV l i).f0 j from rfl]
    by_cases c1 : rd (iV l i).f0 j < 0
    · refine Ev.step (f := fun _ => some false) (fun k => by simp only [stratumref07_SoundFacts.l1]; rw [if_pos h0, if_pos hlt, if_pos hj, if_pos g0, if_pos c1]) ?_
      unfold okV
      rw [decide_eq_false (by omega)]
      exact Ev.now _
    by_cases c2 : rd (iV l i).f0 j > 9999
    · refine Ev.step (f := fun _ => some false) (fun k => by simp only [stratumref07_SoundFacts.l1]; rw [if_pos h0, if_pos hlt, if_pos hj, if_pos g0, if_neg c1, if_pos c2]) ?_
      unfold okV
      rw [decide_eq_false (show ¬ rd (iV l i).f0 j ≤ 9999 by omega), Bool.and_false]
      exact Ev.now _
    refine Ev.step (f := fun k => stratumref07_SoundFacts.l1 k l i (j + 1)) (fun k => by simp only [stratumref07_SoundFacts.l1]; rw [if_pos h0, if_pos hlt, if_pos hj, if_pos g0, if_neg c1, if_neg c2, mQ g0 hj hk]) ?_
    rw [show okV (rd (iV l i).f0 j) = true from by unfold okV; simp; omega, Bool.true_and]
    exact ih (j + 1) (by omega) (by omega) (by omega)
theorem OA (l : List jO) (hn : l.length ≤ 9223372036854775807) (hk : ∀ f ∈ l, f.f0.length ≤ 9223372036854775807) (d : Nat) : ∀ i : Int, 0 ≤ i → i ≤ l.length → (l.length : Int) - i = d →
    Ev (fun k => stratumref07_SoundFacts.l0 k l i) ((l.drop i.toNat).all nR && decide ((l.length : Int) ≤ 200)) := by
  induction d with
  | zero =>
    intro i h0 h1 hd
    rw [drop_end _ i (by omega), List.all_nil, Bool.true_and]
    exact Ev.step (f := fun _ => some (decide ((l.length : Int) ≤ 200))) (fun k => by simp only [stratumref07_SoundFacts.l0]; rw [if_neg (by omega)]) (Ev.now _)
  | succ d ih =>
    intro i h0 h1 hd
    have hlt : i < (l.length : Int) := by omega
    refine Ev.step (f := fun k => stratumref07_SoundFacts.l1 k l i 0) (fun k => by simp only [stratumref07_SoundFacts.l0]; rw [if_pos hlt]) ?_
    have hm : iV l i ∈ l := by
      unfold iV
      rw [List.getD_eq_getElem?_getD, List.getElem?_eq_getElem (show i.toNat < l.length by omega)]
      exact List.getElem_mem _
    have := TV l i h0 hlt hn (hk _ hm) _ (ih (i + 1) (by omega) (by omega) (by omega)) (iV l i).f0.length 0 (by omega) (by omega) (by omega)
    rw [oV z139 l i (by omega) h0, List.all_cons, show l.getD i.toNat z139 = iV l i from rfl, NP]
    rw [Bool.and_assoc]
    exact this
theorem LY (l : List jO) : lW l = (l.all nR && decide ((l.length : Int) ≤ 200)) := by
  unfold lW
  rw [show decide (l.length ≤ 200) = decide ((l.length : Int) ≤ 200) from by rw [decide_eq_decide]; omega, Bool.and_comm]
theorem qO (l : List jO) (hn : l.length ≤ 9223372036854775807) (hk : ∀ f ∈ l, f.f0.length ≤ 9223372036854775807) : Ev (fun k => stratumref07_SoundFacts.f k l) (lW l) := by
  rw [LY]
  exact OA l hn hk l.length 0 (by omega) (by omega) (by omega)
theorem OH (l : List jV) (hn : l.length ≤ 9223372036854775807) (d : Nat) : ∀ i : Int, 0 ≤ i → i ≤ l.length → (l.length : Int) - i = d →
    Ev (fun k => stratumref07_spans.l0 k l i) ((l.drop i.toNat).all lT && decide ((l.length : Int) ≤ 40)) := by
  induction d with
  | zero =>
    intro i h0 h1 hd
    rw [drop_end _ i (by omega), List.all_nil, Bool.true_and]
    exact Ev.step (f := fun _ => some (decide ((l.length : Int) ≤ 40))) (fun k => by simp only [stratumref07_spans.l0]; rw [if_neg (by omega)]) (Ev.now _)
  | succ d ih =>
    intro i h0 h1 hd
    have hlt : i < (l.length : Int) := by omega
    rw [oV z98 l i (by omega) h0, List.all_cons, show l.getD i.toNat z98 = jL l i from rfl]
    by_cases c1 : (jL l i).f0 < 0
    · refine Ev.step (f := fun _ => some false) (fun k => by simp only [stratumref07_spans.l0]; rw [if_pos hlt, if_pos h0, if_pos c1]) ?_
      rw [show lT (jL l i) = false from by unfold lT; simp; omega]
      exact Ev.now _
    by_cases c2 : (jL l i).f0 > 9999
    · refine Ev.step (f := fun _ => some false) (fun k => by simp only [stratumref07_spans.l0]; rw [if_pos hlt, if_pos h0, if_neg c1, if_pos c2]) ?_
      rw [show lT (jL l i) = false from by unfold lT; simp; omega]
      exact Ev.now _
    by_cases c3 : (jL l i).f1 < 0
    · refine Ev.step (f := fun _ => some false) (fun k => by simp only [stratumref07_spans.l0]; rw [if_pos hlt, if_pos h0, if_neg c1, if_neg c2, if_pos c3]) ?_
      rw [show lT (jL l i) = false from by unfold lT; simp; omega]
      exact Ev.now _
    by_cases c4 : (jL l i).f1 > 5
    · refine Ev.step (f := fun _ => some false) (fun k => by simp only [stratumref07_spans.l0]; rw [if_pos hlt, if_pos h0, if_neg c1, if_neg c2, if_neg c3, if_pos c4]) ?_
      rw [show lT (jL l i) = false from by unfold lT; simp; omega]
      exact Ev.now _
    refine Ev.step (f := fun k => stratumref07_spans.l0 k l (i + 1)) (fun k => by simp only [stratumref07_spans.l0]; rw [if_pos hlt, if_pos h0, if_neg c1, if_neg c2, if_neg c3, if_neg c4, mQ h0 hlt hn]) ?_
    rw [show lT (jL l i) = true from by unfold lT; simp; omega, Bool.true_and]
    exact ih (i + 1) (by omega) (by omega) (by omega)
theorem N7 (l : List jV) (hn : l.length ≤ 9223372036854775807) : Ev (fun k => stratumref07_spans.f k l) (l.all lT && decide ((l.length : Int) ≤ 40)) := OH l hn l.length 0 (by omega) (by omega) (by omega)
theorem IA (l : List jE) (hn : l.length ≤ 9223372036854775807) (hk : ∀ e ∈ l, e.f1.length ≤ 9223372036854775807 ∧ ∀ f ∈ e.f1, f.f0.length ≤ 9223372036854775807) (d : Nat) : ∀ i : Int, 0 ≤ i → i ≤ l.length → (l.length : Int) - i = d →
    Ev (fun k => stratumref07_SoundEntries.l0 k l i) (mZ (pU l i) (l.drop i.toNat) && decide ((l.length : Int) ≤ 5000)) := by
  induction d with
  | zero =>
    intro i h0 h1 hd
    rw [drop_end _ i (by omega), mZ, Bool.true_and]
    exact Ev.step (f := fun _ => some (decide ((l.length : Int) ≤ 5000))) (fun k => by simp only [stratumref07_SoundEntries.l0]; rw [if_neg (by omega)]) (Ev.now _)
  | succ d ih =>
    intro i h0 h1 hd
    have hlt : i < (l.length : Int) := by omega
    have hm : iP l i ∈ l := by
      unfold iP
      rw [List.getD_eq_getElem?_getD, List.getElem?_eq_getElem (show i.toNat < l.length by omega)]
      exact List.getElem_mem _
    have hnext : pU l (i + 1) = some (iP l i).f0 := by unfold pU; rw [if_pos (by omega), show i + 1 - 1 = i by omega]
    have hih := ih (i + 1) (by omega) (by omega) (by omega)
    rw [hnext] at hih
    have hw := mQ h0 hlt hn
    rw [oV z86 l i (by omega) h0, show l.getD i.toNat z86 = iP l i from rfl, qW]
    refine Ev.step (f := fun k => (stratumref07_SoundFacts.f k (iP l i).f1).bind _) (fun k => by simp only [stratumref07_SoundEntries.l0]; rw [if_pos hlt, if_pos h0]) ?_
    refine Ev.bind (qO _ (hk _ hm).1 (hk _ hm).2) ?_
    cases lW (iP l i).f1 with
    | false => exact Ev.now _
    | true =>
      simp only [if_true, Bool.true_and]
      rw [hw]
      by_cases c3 : i > 0
      · have hw2 : wrap64 (i - 1) = i - 1 := by unfold wrap64; omega
        unfold pU gapB
        rw [if_pos (show 0 < i from c3)]
        simp only
        by_cases c4 : (iP l i).f0 ≤ (iP l (i - 1)).f0
        · refine Ev.congr (f := fun _ => some false) (fun k => by rw [if_pos c3, hw2, if_pos (show 0 ≤ i - 1 by omega), if_pos (show i - 1 < (l.length : Int) by omega), if_pos c4]) ?_
          rw [decide_eq_false (show ¬ (iP l (i - 1)).f0 < (iP l i).f0 by omega)]
          exact Ev.now _
        · refine Ev.congr (f := fun k => stratumref07_SoundEntries.l0 k l (i + 1)) (fun k => by rw [if_pos c3, hw2, if_pos (show 0 ≤ i - 1 by omega), if_pos (show i - 1 < (l.length : Int) by omega), if_neg c4]) ?_
          rw [decide_eq_true (show (iP l (i - 1)).f0 < (iP l i).f0 by omega), Bool.true_and]
          exact hih
      · refine Ev.congr (f := fun k => stratumref07_SoundEntries.l0 k l (i + 1)) (fun k => by rw [if_neg c3]) ?_
        unfold pU gapB
        rw [if_neg (show ¬ 0 < i from c3)]
        simp only [Bool.true_and]
        exact hih
theorem uU (l : List jE) (hn : l.length ≤ 9223372036854775807) (hk : ∀ e ∈ l, e.f1.length ≤ 9223372036854775807 ∧ ∀ f ∈ e.f1, f.f0.length ≤ 9223372036854775807) : Ev (fun k => stratumref07_SoundEntries.f k l) (nC l && decide ((l.length : Int) ≤ 5000)) :=
  IA l hn hk l.length 0 (by omega) (by omega) (by omega)
structure RD (l3 : List Int) (l4 : List jO) (l6 : List jV) (l9 : List jE) : Prop where
  n3 : l3.length ≤ 9223372036854775807
  n4 : l4.length ≤ 9223372036854775807
  f4 : ∀ f ∈ l4, f.f0.length ≤ 9223372036854775807
  n6 : l6.length ≤ 9223372036854775807
  n9 : l9.length ≤ 9223372036854775807
  f9 : ∀ e ∈ l9, e.f1.length ≤ 9223372036854775807 ∧ ∀ f ∈ e.f1, f.f0.length ≤ 9223372036854775807
theorem oP (a0 a1 a2 : Int) (l3 : List Int) (l4 : List jO) (a5 : Int) (l6 : List jV) (a7 a8 : Int) (l9 : List jE) (s : List UInt8) (hs : s.length < 100) : stratumref07_bare.f a0 a1 a2 l3 l4 a5 l6 a7 a8 l9 (⟨s.toArray⟩ : ByteArray) = some (uN a1 a2 l3 l4 a5 l6 a7 a8 l9 s) := by
  unfold stratumref07_bare.f
  rw [if_pos (show (((⟨s.toArray⟩ : ByteArray).size : Nat) : Int) ≤ 9223372036854775807 from by show ((s.toArray.size : Nat) : Int) ≤ _; simp; omega)]
theorem lenb {α : Type} (l : List α) : ((l.length : Int) == 0) = l.isEmpty := by
  cases l with
  | nil => rfl
  | cons x l => simp; omega
theorem qY {g : Nat → Option Bool} {b : Bool} (B : Bool) (h : Ev g b) : Ev (fun k => if B = true then g k else some false) (B && b) := by
  cases B with
  | false => exact Ev.now _
  | true => exact h
theorem TQ {g : Nat → Option Bool} {b : Bool} (h : Ev g b) : Ev (fun k => (g k).bind fun t => some t) b := h.congr (fun k => by cases g k <;> rfl)
theorem nS (a0 a1 a2 : Int) (l3 : List Int) (l4 : List jO) (a5 : Int) (l6 : List jV) (a7 a8 : Int) (l9 : List jE) (h : RD l3 l4 l6 l9) :
    Ev (fun k => stratumref07_Sound.f k a0 a1 a2 l3 l4 a5 l6 a7 a8 l9) (jJ ⟨a0, a1, a2, l3, l4, ⟨a5, l6⟩, a7, a8, l9⟩) := by
  have e1 := oP a0 a1 a2 l3 l4 a5 l6 a7 a8 l9 [73, 78, 70] (by decide)
  have e2 := oP a0 a1 a2 l3 l4 a5 l6 a7 a8 l9 [73, 65, 78] (by decide)
  have e3 := oP a0 a1 a2 l3 l4 a5 l6 a7 a8 l9 [73] (by decide)
  have e4 := oP a0 a1 a2 l3 l4 a5 l6 a7 a8 l9 [77] (by decide)
  have e5 := oP a0 a1 a2 l3 l4 a5 l6 a7 a8 l9 [73, 82] (by decide)
  have b1 : uN a1 a2 l3 l4 a5 l6 a7 a8 l9 [73, 78, 70] = (a2 == 0 && (a5 == 0 && l6.isEmpty) && (a7 == 0 && a8 == 0 && l9.isEmpty)) := by unfold uN flag; rw [lenb, lenb, lenb, lenb]; simp
  have b2 : uN a1 a2 l3 l4 a5 l6 a7 a8 l9 [73, 65, 78] = (l4.isEmpty && (a5 == 0 && l6.isEmpty) && (a7 == 0 && a8 == 0 && l9.isEmpty)) := by unfold uN flag; rw [lenb, lenb, lenb, lenb]; simp
  have b3 : uN a1 a2 l3 l4 a5 l6 a7 a8 l9 [73] = (a2 == 0 && l3.isEmpty && l4.isEmpty && (a5 == 0 && l6.isEmpty) && (a7 == 0 && a8 == 0 && l9.isEmpty)) := by unfold uN flag; rw [lenb, lenb, lenb, lenb]; simp
  have b4 : uN a1 a2 l3 l4 a5 l6 a7 a8 l9 [77] = (a1 == 0 && a2 == 0 && l3.isEmpty && l4.isEmpty && (a7 == 0 && a8 == 0 && l9.isEmpty)) := by unfold uN flag; rw [lenb, lenb, lenb, lenb]; simp
  have b5 : uN a1 a2 l3 l4 a5 l6 a7 a8 l9 [73, 82] = (a2 == 0 && l3.isEmpty && l4.isEmpty && (a5 == 0 && l6.isEmpty)) := by unfold uN flag; rw [lenb, lenb, lenb, lenb]; simp
  rw [b1] at e1; rw [b2] at e2; rw [b3] at e3; rw [b4] at e4; rw [b5] at e5
  clear b1 b2 b3 b4 b5
  have n3 := yO l3 h.n3
  have n4 := qO l4 h.n4 h.f4
  have n6 := N7 l6 h.n6
  have n9 := uU l9 h.n9 h.f9
  by_cases h1 : a0 = 1
  · have hs : jJ ⟨a0, a1, a2, l3, l4, ⟨a5, l6⟩, a7, a8, l9⟩ = ((a2 == 0 && (a5 == 0 && l6.isEmpty) && (a7 == 0 && a8 == 0 && l9.isEmpty)) && (lU (-1) l3 && lW l4)) := by
      unfold jJ
      simp only [h1, if_true]
      rw [Bool.eq_iff_iff]
      simp only [Bool.and_eq_true]
      constructor <;> (intro h; simp only [h, and_self])
    rw [hs]
    refine Ev.congr (fun k => by unfold stratumref07_Sound.f; rw [if_pos h1, e1]; rfl) (qY _ (Ev.bind n3 (qY _ (TQ n4))))
  by_cases h2 : a0 = 2
  · have hs : jJ ⟨a0, a1, a2, l3, l4, ⟨a5, l6⟩, a7, a8, l9⟩ = ((l4.isEmpty && (a5 == 0 && l6.isEmpty) && (a7 == 0 && a8 == 0 && l9.isEmpty)) && lU (-1) l3) := by
      unfold jJ
      simp only [h2, if_true, if_false, show ¬ (2 : Int) = 1 from by decide]
      rw [Bool.eq_iff_iff]
      simp only [Bool.and_eq_true]
      constructor <;> (intro h; simp only [h, and_self])
    rw [hs]
    refine Ev.congr (fun k => by unfold stratumref07_Sound.f; rw [if_neg h1, if_pos h2, e2]; rfl) (qY _ (TQ n3))
  by_cases h3 : a0 = 3 ∨ a0 = 4 ∨ a0 = 5
  · have hs : jJ ⟨a0, a1, a2, l3, l4, ⟨a5, l6⟩, a7, a8, l9⟩ = (a2 == 0 && l3.isEmpty && l4.isEmpty && (a5 == 0 && l6.isEmpty) && (a7 == 0 && a8 == 0 && l9.isEmpty)) := by
      have hd : (decide (a0 = 3) || decide (a0 = 4) || decide (a0 = 5)) = true := by simp; omega
      unfold jJ
      simp only [h1, h2, hd, if_true, if_false]
      rw [Bool.eq_iff_iff]
      simp only [Bool.and_eq_true]
      constructor <;> (intro h; simp only [h, and_self])
    rw [hs]
    have hj : Ev (fun k => stratumref07_Sound.j0 k a0 true a0 a1 a2 l3 l4 a5 l6 a7 a8 l9) (a2 == 0 && l3.isEmpty && l4.isEmpty && (a5 == 0 && l6.isEmpty) && (a7 == 0 && a8 == 0 && l9.isEmpty)) :=
      Ev.step (fun k => by simp only [stratumref07_Sound.j0]; rw [if_pos True.intro, e3]; rfl) (Ev.now _)
    rcases h3 with h3 | h3 | h3
    · exact Ev.congr (fun k => by unfold stratumref07_Sound.f; rw [if_neg h1, if_neg h2, if_pos h3, show (a0 == 3) = true from beq_iff_eq.mpr h3]) hj
    · exact Ev.congr (fun k => by unfold stratumref07_Sound.f; rw [if_neg h1, if_neg h2, if_neg (by omega), if_pos h3, show (a0 == 4) = true from beq_iff_eq.mpr h3]) hj
    · exact Ev.congr (fun k => by unfold stratumref07_Sound.f; rw [if_neg h1, if_neg h2, if_neg (by omega), if_neg (by omega), show (a0 == 5) = true from beq_iff_eq.mpr h3]) hj
  have hd : (decide (a0 = 3) || decide (a0 = 4) || decide (a0 = 5)) = false := by simp; omega
  have hj : ∀ {r : Bool} {g : Nat → Option Bool}, (∀ k, stratumref07_Sound.j0 (k + 1) a0 false a0 a1 a2 l3 l4 a5 l6 a7 a8 l9 = g k) → Ev g r → Ev (fun k => stratumref07_Sound.f k a0 a1 a2 l3 l4 a5 l6 a7 a8 l9) r := fun hg h =>
    Ev.congr (fun k => by unfold stratumref07_Sound.f; rw [if_neg h1, if_neg h2, if_neg (by omega), if_neg (by omega), show (a0 == 5) = false from beq_eq_false_iff_ne.mpr (by omega)]) (Ev.step hg h)
  by_cases h6 : a0 = 6
  · have hs : jJ ⟨a0, a1, a2, l3, l4, ⟨a5, l6⟩, a7, a8, l9⟩ = ((a1 == 0 && a2 == 0 && l3.isEmpty && l4.isEmpty && (a7 == 0 && a8 == 0 && l9.isEmpty)) && (l6.all lT && decide ((l6.length : Int) ≤ 40))) := by
      unfold jJ
      simp only [h1, h2, hd, h6, if_true, if_false, Bool.false_eq_true]
      rw [show decide ((l6.length : Int) ≤ 40) = decide (l6.length ≤ 40) from by rw [decide_eq_decide]; omega]
      simp only [show ¬ (6 : Int) = 1 from by decide, show ¬ (6 : Int) = 2 from by decide, if_false, show (decide ((6 : Int) = 3) || decide ((6 : Int) = 4) || decide ((6 : Int) = 5)) = false from by decide, Bool.false_eq_true]
      rw [Bool.eq_iff_iff]
      simp only [Bool.and_eq_true]
      constructor <;> (intro h; simp only [h, and_self])
    rw [hs]
    exact hj (fun k => by simp only [stratumref07_Sound.j0]; rw [if_neg (by decide), if_pos h6, e4]; rfl) (qY _ (TQ n6))
  by_cases h7 : a0 = 7
  · have hs : jJ ⟨a0, a1, a2, l3, l4, ⟨a5, l6⟩, a7, a8, l9⟩ = ((a2 == 0 && l3.isEmpty && l4.isEmpty && (a5 == 0 && l6.isEmpty)) && ((nC l9 && decide ((l9.length : Int) ≤ 5000)) && (decide (0 ≤ a7) && decide (a7 ≤ 10000) && decide (0 ≤ a8) && decide (a8 ≤ 10000)))) := by
      unfold jJ
      simp only [h7, if_true, if_false, show ¬ (7 : Int) = 1 from by decide, show ¬ (7 : Int) = 2 from by decide, show ¬ (7 : Int) = 6 from by decide, show (decide ((7 : Int) = 3) || decide ((7 : Int) = 4) || decide ((7 : Int) = 5)) = false from by decide, Bool.false_eq_true]
      rw [show decide ((l9.length : Int) ≤ 5000) = decide (l9.length ≤ 5000) from by rw [decide_eq_decide]; omega]
      rw [Bool.eq_iff_iff]
      simp only [Bool.and_eq_true]
      constructor <;> (intro h; simp only [h, and_self])
    rw [hs]
    refine hj (fun k => by simp only [stratumref07_Sound.j0]; rw [if_neg (by decide), if_neg h6, if_pos h7, e5]; rfl) (qY _ (Ev.bind n9 (qY _ ?_)))
    by_cases q1 : a7 ≥ 0
    · by_cases q2 : a7 ≤ 10000
      · by_cases q3 : a8 ≥ 0
        · rw [decide_eq_true (show 0 ≤ a7 from q1), decide_eq_true q2, decide_eq_true (show 0 ≤ a8 from q3), Bool.true_and, Bool.true_and, Bool.true_and]
          exact Ev.congr (fun k => by rw [if_pos q1, if_pos q2, if_pos q3]) (Ev.now _)
        · rw [decide_eq_false (show ¬ 0 ≤ a8 from q3), Bool.and_false, Bool.false_and]
          exact Ev.congr (fun k => by rw [if_pos q1, if_pos q2, if_neg q3]) (Ev.now _)
      · rw [decide_eq_false q2, Bool.and_false, Bool.false_and, Bool.false_and]
        exact Ev.congr (fun k => by rw [if_pos q1, if_neg q2]) (Ev.now _)
    · rw [decide_eq_false (show ¬ 0 ≤ a7 from q1), Bool.false_and, Bool.false_and, Bool.false_and]
      exact Ev.congr (fun k => by rw [if_neg q1]) (Ev.now _)
  · have hs : jJ ⟨a0, a1, a2, l3, l4, ⟨a5, l6⟩, a7, a8, l9⟩ = false := by
      unfold jJ
      simp only [h1, h2, hd, h6, h7, if_false, Bool.false_eq_true]
    rw [hs]
    exact hj (fun k => by simp only [stratumref07_Sound.j0]; rw [if_neg (by decide), if_neg h6, if_neg h7]) (Ev.now _)
end Go.Proofs.YtgfkgppomaapiaaDoor.K
end

section
namespace Go.Proofs
open Go.Shelf
def Tryd.laysM181_ren : Go.Shelf.Ren := ⟨fun | 181 => 55 | n => n, fun | 130 => 87 | 3 => 3 | 0 => 0 | 93 => 91 | 37 => 33 | 91 => 89 | 5 => 5 | n => n, fun | n => n⟩
theorem Tryd.laysM181 : Go.Proofs.LaysM.n181 Tryd.prog Tryd.laysM181_ren := {
  mixed := by kernel_rfl
  f181 := Tryd.func55.trans (congrArg some (by kernel_rfl))
  t0 := Tryd.underlying0
  a0 := Tryd.isAgg0
  z0 := Tryd.sizeOf0
  v0 := Tryd.zeroValue0
  t3 := Tryd.underlying3
  a3 := Tryd.isAgg3
  z3 := Tryd.sizeOf3
  v3 := Tryd.zeroValue3
  t37 := Tryd.underlying33
  a37 := Tryd.isAgg33
  z37 := Tryd.sizeOf33
  v37 := Tryd.zeroValue33
  t93 := Tryd.underlying91
  a93 := Tryd.isAgg91
  z93 := Tryd.sizeOf91
  v93 := Tryd.zeroValue91
  t130 := Tryd.underlying87
  a130 := Tryd.isAgg87
  z130 := Tryd.sizeOf87
  v130 := Tryd.zeroValue87
  t5 := Tryd.underlying5
  a5 := Tryd.isAgg5
  z5 := Tryd.sizeOf5
  v5 := Tryd.zeroValue5
  t91 := Tryd.underlying89
  a91 := Tryd.isAgg89
  z91 := Tryd.sizeOf89
  v91 := Tryd.zeroValue89
  i0 := by kernel_rfl
  i3 := by kernel_rfl
  i5 := by kernel_rfl
  i37 := by kernel_rfl
  i91 := by kernel_rfl
  i93 := by kernel_rfl
  i130 := by kernel_rfl }
open Go.RowKit in
theorem Tryd.Buffer_Len (B b : Nat) (bs : List Value) (w : World) (h : Lib.IsBuffer 91 5 B b bs w) :
    Calls Tryd.prog 55 #[.pointer (some ⟨b, 0, none⟩)] w fun e w' => e = .returned (.int .i64 bs.length) ∧ ∃ n, w' = w.drewN n := Any.Buffer_Len Tryd.laysM181 B b bs w h
def Tryd.laysM183_ren : Go.Shelf.Ren := ⟨fun | 183 => 56 | n => n, fun | 130 => 87 | 37 => 33 | 0 => 0 | 93 => 91 | 3 => 3 | 5 => 5 | 91 => 89 | n => n, fun | n => n⟩
theorem Tryd.laysM183 : Go.Proofs.LaysM.n183 Tryd.prog Tryd.laysM183_ren := {
  mixed := by kernel_rfl
  f183 := Tryd.func56.trans (congrArg some (by kernel_rfl))
  t0 := Tryd.underlying0
  a0 := Tryd.isAgg0
  z0 := Tryd.sizeOf0
  v0 := Tryd.zeroValue0
  t3 := Tryd.underlying3
  a3 := Tryd.isAgg3
  z3 := Tryd.sizeOf3
  v3 := Tryd.zeroValue3
  t37 := Tryd.underlying33
  a37 := Tryd.isAgg33
  z37 := Tryd.sizeOf33
  v37 := Tryd.zeroValue33
  t93 := Tryd.underlying91
  a93 := Tryd.isAgg91
  z93 := Tryd.sizeOf91
  v93 := Tryd.zeroValue91
  t130 := Tryd.underlying87
  a130 := Tryd.isAgg87
  z130 := Tryd.sizeOf87
  v130 := Tryd.zeroValue87
  t5 := Tryd.underlying5
  a5 := Tryd.isAgg5
  z5 := Tryd.sizeOf5
  v5 := Tryd.zeroValue5
  t91 := Tryd.underlying89
  a91 := Tryd.isAgg89
  z91 := Tryd.sizeOf89
  v91 := Tryd.zeroValue89
  i0 := by kernel_rfl
  i3 := by kernel_rfl
  i5 := by kernel_rfl
  i37 := by kernel_rfl
  i91 := by kernel_rfl
  i93 := by kernel_rfl
  i130 := by kernel_rfl }
open Go.RowKit in
theorem Tryd.Buffer_Bytes (B b : Nat) (bs : List Value) (w : World) (h : Lib.IsBuffer 91 5 B b bs w) :
    Calls Tryd.prog 56 #[.pointer (some ⟨b, 0, none⟩)] w fun e w' => ∃ v, e = .returned v ∧ w'.ownsRow B 5 1 v bs.length bs ∧ ∃ n, w' = w.drewN n := Any.Buffer_Bytes Tryd.laysM183 B b bs w h
def Tryd.laysM179_ren : Go.Shelf.Ren := ⟨fun | 179 => 90 | 251 => 114 | 252 => 115 | 181 => 55 | 184 => 125 | 290 => 128 | 324 => 132 | n => n, fun | 130 => 87 | 5 => 5 | 75 => 141 | 0 => 0 | 93 => 91 | 91 => 89 | 3 => 3 | 131 => 167 | 4 => 4 | 37 => 33 | 20 => 20 | 80 => 185 | 9 => 9 | n => n, fun | 14 => 0 | n => n⟩
theorem Tryd.laysM179 : Go.Proofs.LaysM.n179 Tryd.prog Tryd.laysM179_ren := {
  mixed := by kernel_rfl
  f179 := Tryd.func90.trans (congrArg some (by kernel_rfl))
  f181 := Tryd.func55.trans (congrArg some (by kernel_rfl))
  f184 := Tryd.func125.trans (congrArg some (by kernel_rfl))
  f251 := Tryd.func114.trans (congrArg some (by kernel_rfl))
  f252 := Tryd.func115.trans (congrArg some (by kernel_rfl))
  f290 := Tryd.func128.trans (congrArg some (by kernel_rfl))
  f324 := Tryd.func132.trans (congrArg some (by kernel_rfl))
  t0 := Tryd.underlying0
  a0 := Tryd.isAgg0
  z0 := Tryd.sizeOf0
  v0 := Tryd.zeroValue0
  t3 := Tryd.underlying3
  a3 := Tryd.isAgg3
  z3 := Tryd.sizeOf3
  v3 := Tryd.zeroValue3
  t4 := Tryd.underlying4
  a4 := Tryd.isAgg4
  z4 := Tryd.sizeOf4
  v4 := Tryd.zeroValue4
  t5 := Tryd.underlying5
  a5 := Tryd.isAgg5
  z5 := Tryd.sizeOf5
  v5 := Tryd.zeroValue5
  t20 := Tryd.underlying20
  a20 := Tryd.isAgg20
  z20 := Tryd.sizeOf20
  v20 := Tryd.zeroValue20
  t37 := Tryd.underlying33
  a37 := Tryd.isAgg33
  z37 := Tryd.sizeOf33
  v37 := Tryd.zeroValue33
  t75 := Tryd.underlying141
  a75 := Tryd.isAgg141
  z75 := Tryd.sizeOf141
  v75 := Tryd.zeroValue141
  t91 := Tryd.underlying89
  a91 := Tryd.isAgg89
  z91 := Tryd.sizeOf89
  v91 := Tryd.zeroValue89
  t93 := Tryd.underlying91
  a93 := Tryd.isAgg91
  z93 := Tryd.sizeOf91
  v93 := Tryd.zeroValue91
  t130 := Tryd.underlying87
  a130 := Tryd.isAgg87
  z130 := Tryd.sizeOf87
  v130 := Tryd.zeroValue87
  t131 := Tryd.underlying167
  a131 := Tryd.isAgg167
  z131 := Tryd.sizeOf167
  v131 := Tryd.zeroValue167
  g14 := by kernel_rfl
  t9 := Tryd.underlying9
  a9 := Tryd.isAgg9
  z9 := Tryd.sizeOf9
  v9 := Tryd.zeroValue9
  t80 := Tryd.underlying185
  a80 := Tryd.isAgg185
  z80 := Tryd.sizeOf185
  v80 := Tryd.zeroValue185
  i0 := by kernel_rfl
  i3 := by kernel_rfl
  i4 := by kernel_rfl
  i5 := by kernel_rfl
  i9 := by kernel_rfl
  i20 := by kernel_rfl
  i37 := by kernel_rfl
  i75 := by kernel_rfl
  i80 := by kernel_rfl
  i91 := by kernel_rfl
  i93 := by kernel_rfl
  i130 := by kernel_rfl
  i131 := by kernel_rfl
  m14 := by kernel_rfl }
open Go.RowKit in
theorem Tryd.Buffer_WriteByte_kept (B b : Nat) (bs : List Value) (c : Int) (w : World) (h : Lib.IsBuffer 91 5 B b bs w) (hBw : B ≤ w.heap.size) (h1 : ∀ v ∈ bs, v.oneCell' = true) (hlim : bs.length + 1 ≤ 140737488355328) :
    Calls Tryd.prog 90 #[.pointer (some ⟨b, 0, none⟩), .int .u8 c] w fun e w' => e = .returned .nilIface ∧ Lib.IsBuffer 91 5 B b (bs ++ [.int .u8 c]) w' ∧ Below B w w' ∧ Lib.OthersKept 5 (some b) w w' := Any.Buffer_WriteByte_kept Tryd.laysM179 B b bs c w h hBw h1 hlim
end Go.Proofs
end

section
namespace Go.Proofs.YtgfkgppomaapiaaDoor.K
open RowKit YtgfkgppomaapiaaDoorW.PrintWords YtgfkgppomaapiaaDoorW.PrintLast YtgfkgppomaapiaaDoorW.PrintMore My
def Bf (B b : Nat) (l : List UInt8) (w : World) : Prop := Lib.IsBuffer 91 5 B b (Lib.byteCells l) w
def Kp (B b : Nat) (w w' : World) : Prop := Below B w w' ∧ Lib.OthersKept 5 (some b) w w'
theorem Kp.refl (B b : Nat) (w : World) : Kp B b w w := ⟨Below.refl _ _, Lib.OthersKept.refl _ _ _⟩
theorem Kp.trans {B b : Nat} {w w1 w2 : World} (h : Kp B b w w1) (k : Kp B b w1 w2) : Kp B b w w2 := ⟨h.1.trans k.1, h.2.trans k.2⟩
theorem Kp.alloc {B b : Nat} {w w1 : World} (h : Kp B b w w1) (hB : B ≤ w1.heap.size) (o : Obj) : Kp B b w (w1.alloc o) := ⟨h.1.alloc hB o, h.2.alloc o⟩
theorem Kp.size {B b : Nat} {w w1 : World} (h : Kp B b w w1) : w.heap.size ≤ w1.heap.size := h.1.size
theorem Kp.block {B b : Nat} {w w1 : World} (h : Kp B b w w1) {k : Nat} {cs : Array Value} {t : TypeId} {fz : Nat × Nat} (hk : w.heap[k]? = some (.cells cs t fz)) (hne : k ≠ b) (ht : t ≠ 5) : w1.heap[k]? = some (.cells cs t fz) :=
  h.2 k _ hk (fun e => hne (by injection e)) (fun c f e => ht (by injection e))
theorem Bf.lt {B b : Nat} {l : List UInt8} {w : World} (h : Bf B b l w) : b < w.heap.size := Lib.IsBuffer.lt h
theorem Bf.alloc {B b : Nat} {l : List UInt8} {w : World} (h : Bf B b l w) (o : Obj) : Bf B b l (w.alloc o) := Lib.IsBuffer.alloc h o
theorem Bf.fresh (w : World) : Bf w.heap.size w.heap.size [] (w.alloc (.cells #[.slice none 0 0, .int .i64 0, .int .i8 0] 91)) := Lib.fresh_isBuffer _ _ _
theorem MB (l : List UInt8) (c : UInt8) : Lib.byteCells (l ++ [c]) = Lib.byteCells l ++ [.int .u8 (c.toNat : Int)] := by simp [Lib.byteCells]
theorem PZ (x : Int) (s k : Nat) (hk : k < s) : (layB x s).take (k + 1) = (layB x s).take k ++ [UInt8.ofNat ((x / 256 ^ (s - 1 - k)) % 256).toNat] := by
  induction s generalizing k with
  | zero => omega
  | succ s ih =>
    cases k with
    | zero => simp [layB]
    | succ k =>
      have := ih k (by omega)
      simp only [layB, List.take_succ_cons, List.cons_append]
      rw [this, show s + 1 - 1 - (k + 1) = s - 1 - k by omega]
theorem byte_of (v : Int) : ((UInt8.ofNat (v % 256).toNat).toNat : Int) = v % 256 := by
  rw [UInt8.toNat_ofNat']
  omega
theorem Bf.step {B b : Nat} {l : List UInt8} {x V : Int} {s k : Nat} {w : World} (h : Lib.IsBuffer 91 5 B b (Lib.byteCells (l ++ (layB x s).take k) ++ [.int .u8 V]) w) (hk : k < s) (hV : V = x / 256 ^ (s - 1 - k) % 256) : Bf B b (l ++ (layB x s).take (k + 1)) w := by
  unfold Bf
  rw [PZ x s k hk, ← List.append_assoc, MB, byte_of, ← hV]
  exact h
theorem cells_one (l : List UInt8) : ∀ v ∈ Lib.byteCells l, v.oneCell' = true := Lib.byteCells_one l
theorem jY (l : List UInt8) (x : Int) (s k : Nat) (h : l.length + s ≤ 140737488355328) (hk : k < s) : (Lib.byteCells (l ++ (layB x s).take k)).length + 1 ≤ 140737488355328 := by
  rw [Lib.byteCells_length, List.length_append, List.length_take, iL]
  omega
set_option maxHeartbeats 4000000 in
theorem nT (B b : Nat) (l : List UInt8) (x : Int) (w : World) (h : Bf B b l w) (hB : B ≤ w.heap.size) (hl : l.length + 1 ≤ 140737488355328) :
    Calls Tryd.prog 49 #[.pointer (some ⟨b, 0, none⟩), .int .u8 x, .int .i64 1] w fun e w' => e = .returned (.tuple #[]) ∧ Bf B b (l ++ layB x 1) w' ∧ Kp B b w w' := by
  have H0 := iC.mk h
  clear h
  go_enter Tryd.func49, Tryd.ntmps49
  go_wp2
  go_loopw [8] (fun i wr => ∃ k : Nat, k ≤ 1 ∧ i = .int .i64 k ∧ iC (Bf B b (l ++ (layB x 1).take k) wr) ∧ iC (Kp B b w wr)) (fun i _ => 1 - (intOf i).toNat)
  case atStart => exact ⟨0, Nat.zero_le _, rfl, ⟨by rw [List.take_zero, List.append_nil]; exact H0.out⟩, ⟨Kp.refl _ _ _⟩⟩
  case round =>
    obtain ⟨k, hk, rfl, HI, HK⟩ := hrel
    have h' : k = 0 ∨ k = 1 := by omega
    rcases h' with rfl | rfl
    · have hI := HI.out
      have hK := HK.out
      clear HI HK
      go_wp2_with (go_at_call 90; refine (Tryd.Buffer_WriteByte_kept B b _ _ wr hI (Nat.le_trans hB hK.size) (cells_one _) (jY l x 1 0 hl (by omega))).mono ?_; rintro e w1 ⟨rfl, hI1, hb1, hk1⟩; have HI1 := iC.mk hI1; have HK1 := iC.mk (hK.trans ⟨hb1, hk1⟩); clear hI1 hb1 hk1 hI hK)
      go_roundw
      case rel => exact ⟨1, by omega, by go_num, ⟨Bf.step (k := 0) HI1.out (by omega) (by first | rfl | (show _ = x / 1 % 256; rw [IntKind.wrap_u64]; omega) | (show _ = x / 1 % 256; omega))⟩, HK1⟩
      case measure => simp [intOf]
    · go_wp2
      go_end0
      refine ⟨rfl, ?_, HK.out⟩
      have := HI.out
      rwa [List.take_of_length_le (by rw [iL]; exact Nat.le_refl _)] at this
set_option maxHeartbeats 4000000 in
theorem kX (B b : Nat) (l : List UInt8) (x : Int) (w : World) (h : Bf B b l w) (hB : B ≤ w.heap.size) (hl : l.length + 4 ≤ 140737488355328) :
    Calls Tryd.prog 50 #[.pointer (some ⟨b, 0, none⟩), .int .u32 x, .int .i64 4] w fun e w' => e = .returned (.tuple #[]) ∧ Bf B b (l ++ layB x 4) w' ∧ Kp B b w w' := by
  have H0 := iC.mk h
  clear h
  go_enter Tryd.func50, Tryd.ntmps50
  go_wp2
  go_loopw [8] (fun i wr => ∃ k : Nat, k ≤ 4 ∧ i = .int .i64 k ∧ iC (Bf B b (l ++ (layB x 4).take k) wr) ∧ iC (Kp B b w wr)) (fun i _ => 4 - (intOf i).toNat)
  case atStart => exact ⟨0, Nat.zero_le _, rfl, ⟨by rw [List.take_zero, List.append_nil]; exact H0.out⟩, ⟨Kp.refl _ _ _⟩⟩
  case round =>
    obtain ⟨k, hk, rfl, HI, HK⟩ := hrel
    have h' : k = 0 ∨ k = 1 ∨ k = 2 ∨ k = 3 ∨ k = 4 := by omega
    rcases h' with rfl | rfl | rfl | rfl | rfl
    · have hI := HI.out
      have hK := HK.out
      clear HI HK
      go_wp2_with (go_at_call 90; refine (Tryd.Buffer_WriteByte_kept B b _ _ wr hI (Nat.le_trans hB hK.size) (cells_one _) (jY l x 4 0 hl (by omega))).mono ?_; rintro e w1 ⟨rfl, hI1, hb1, hk1⟩; have HI1 := iC.mk hI1; have HK1 := iC.mk (hK.trans ⟨hb1, hk1⟩); clear hI1 hb1 hk1 hI hK)
      go_roundw
      case rel => exact ⟨1, by omega, by go_num, ⟨Bf.step (k := 0) HI1.out (by omega) (by first | rfl | (show _ = x / 16777216 % 256; rw [IntKind.wrap_u64]; omega) | (show _ = x / 16777216 % 256; omega))⟩, HK1⟩
      case measure => simp [intOf]
    · have hI := HI.out
      have hK := HK.out
      clear HI HK
      go_wp2_with (go_at_call 90; refine (Tryd.Buffer_WriteByte_kept B b _ _ wr hI (Nat.le_trans hB hK.size) (cells_one _) (jY l x 4 1 hl (by omega))).mono ?_; rintro e w1 ⟨rfl, hI1, hb1, hk1⟩; have HI1 := iC.mk hI1; have HK1 := iC.mk (hK.trans ⟨hb1, hk1⟩); clear hI1 hb1 hk1 hI hK)
      go_roundw
      case rel => exact ⟨2, by omega, by go_num, ⟨Bf.step (k := 1) HI1.out (by omega) (by first | rfl | (show _ = x / 65536 % 256; rw [IntKind.wrap_u64]; omega) | (show _ = x / 65536 % 256; omega))⟩, HK1⟩
      case measure => simp [intOf]
    · have hI := HI.out
      have hK := HK.out
      clear HI HK
      go_wp2_with (go_at_call 90; refine (Tryd.Buffer_WriteByte_kept B b _ _ wr hI (Nat.le_trans hB hK.size) (cells_one _) (jY l x 4 2 hl (by omega))).mono ?_; rintro e w1 ⟨rfl, hI1, hb1, hk1⟩; have HI1 := iC.mk hI1; have HK1 := iC.mk (hK.trans ⟨hb1, hk1⟩); clear hI1 hb1 hk1 hI hK)
      go_roundw
      case rel => exact ⟨3, by omega, by go_num, ⟨Bf.step (k := 2) HI1.out (by omega) (by first | rfl | (show _ = x / 256 % 256; rw [IntKind.wrap_u64]; omega) | (show _ = x / 256 % 256; omega))⟩, HK1⟩
      case measure => simp [intOf]
    · have hI := HI.out
      have hK := HK.out
      clear HI HK
      go_wp2_with (go_at_call 90; refine (Tryd.Buffer_WriteByte_kept B b _ _ wr hI (Nat.le_trans hB hK.size) (cells_one _) (jY l x 4 3 hl (by omega))).mono ?_; rintro e w1 ⟨rfl, hI1, hb1, hk1⟩; have HI1 := iC.mk hI1; have HK1 := iC.mk (hK.trans ⟨hb1, hk1⟩); clear hI1 hb1 hk1 hI hK)
      go_roundw
      case rel => exact ⟨4, by omega, by go_num, ⟨Bf.step (k := 3) HI1.out (by omega) (by first | rfl | (show _ = x / 1 % 256; rw [IntKind.wrap_u64]; omega) | (show _ = x / 1 % 256; omega))⟩, HK1⟩
      case measure => simp [intOf]
    · go_wp2
      go_end0
      refine ⟨rfl, ?_, HK.out⟩
      have := HI.out
      rwa [List.take_of_length_le (by rw [iL]; exact Nat.le_refl _)] at this
set_option maxHeartbeats 4000000 in
theorem oJ (B b : Nat) (l : List UInt8) (x : Int) (w : World) (h : Bf B b l w) (hB : B ≤ w.heap.size) (hl : l.length + 1 ≤ 140737488355328) :
    Calls Tryd.prog 53 #[.pointer (some ⟨b, 0, none⟩), .int .i64 x, .int .i64 1] w fun e w' => e = .returned (.tuple #[]) ∧ Bf B b (l ++ layB x 1) w' ∧ Kp B b w w' := by
  have H0 := iC.mk h
  clear h
  go_enter Tryd.func53, Tryd.ntmps53
  go_wp2
  go_loopw [8] (fun i wr => ∃ k : Nat, k ≤ 1 ∧ i = .int .i64 k ∧ iC (Bf B b (l ++ (layB x 1).take k) wr) ∧ iC (Kp B b w wr)) (fun i _ => 1 - (intOf i).toNat)
  case atStart => exact ⟨0, Nat.zero_le _, rfl, ⟨by rw [List.take_zero, List.append_nil]; exact H0.out⟩, ⟨Kp.refl _ _ _⟩⟩
  case round =>
    obtain ⟨k, hk, rfl, HI, HK⟩ := hrel
    have h' : k = 0 ∨ k = 1 := by omega
    rcases h' with rfl | rfl
    · have hI := HI.out
      have hK := HK.out
      clear HI HK
      go_wp2_with (go_at_call 90; refine (Tryd.Buffer_WriteByte_kept B b _ _ wr hI (Nat.le_trans hB hK.size) (cells_one _) (jY l x 1 0 hl (by omega))).mono ?_; rintro e w1 ⟨rfl, hI1, hb1, hk1⟩; have HI1 := iC.mk hI1; have HK1 := iC.mk (hK.trans ⟨hb1, hk1⟩); clear hI1 hb1 hk1 hI hK)
      go_roundw
      case rel => exact ⟨1, by omega, by go_num, ⟨Bf.step (k := 0) HI1.out (by omega) (by first | rfl | (show _ = x / 1 % 256; rw [IntKind.wrap_u64]; omega) | (show _ = x / 1 % 256; omega))⟩, HK1⟩
      case measure => simp [intOf]
    · go_wp2
      go_end0
      refine ⟨rfl, ?_, HK.out⟩
      have := HI.out
      rwa [List.take_of_length_le (by rw [iL]; exact Nat.le_refl _)] at this
set_option maxHeartbeats 4000000 in
theorem nD (B b : Nat) (l : List UInt8) (x : Int) (w : World) (h : Bf B b l w) (hB : B ≤ w.heap.size) (hl : l.length + 4 ≤ 140737488355328) :
    Calls Tryd.prog 53 #[.pointer (some ⟨b, 0, none⟩), .int .i64 x, .int .i64 4] w fun e w' => e = .returned (.tuple #[]) ∧ Bf B b (l ++ layB x 4) w' ∧ Kp B b w w' := by
  have H0 := iC.mk h
  clear h
  go_enter Tryd.func53, Tryd.ntmps53
  go_wp2
  go_loopw [8] (fun i wr => ∃ k : Nat, k ≤ 4 ∧ i = .int .i64 k ∧ iC (Bf B b (l ++ (layB x 4).take k) wr) ∧ iC (Kp B b w wr)) (fun i _ => 4 - (intOf i).toNat)
  case atStart => exact ⟨0, Nat.zero_le _, rfl, ⟨by rw [List.take_zero, List.append_nil]; exact H0.out⟩, ⟨Kp.refl _ _ _⟩⟩
  case round =>
    obtain ⟨k, hk, rfl, HI, HK⟩ := hrel
    have h' : k = 0 ∨ k = 1 ∨ k = 2 ∨ k = 3 ∨ k = 4 := by omega
    rcases h' with rfl | rfl | rfl | rfl | rfl
    · have hI := HI.out
      have hK := HK.out
      clear HI HK
      go_wp2_with (go_at_call 90; refine (Tryd.Buffer_WriteByte_kept B b _ _ wr hI (Nat.le_trans hB hK.size) (cells_one _) (jY l x 4 0 hl (by omega))).mono ?_; rintro e w1 ⟨rfl, hI1, hb1, hk1⟩; have HI1 := iC.mk hI1; have HK1 := iC.mk (hK.trans ⟨hb1, hk1⟩); clear hI1 hb1 hk1 hI hK)
      go_roundw
      case rel => exact ⟨1, by omega, by go_num, ⟨Bf.step (k := 0) HI1.out (by omega) (by first | rfl | (show _ = x / 16777216 % 256; rw [IntKind.wrap_u64]; omega) | (show _ = x / 16777216 % 256; omega))⟩, HK1⟩
      case measure => simp [intOf]
    · have hI := HI.out
      have hK := HK.out
      clear HI HK
      go_wp2_with (go_at_call 90; refine (Tryd.Buffer_WriteByte_kept B b _ _ wr hI (Nat.le_trans hB hK.size) (cells_one _) (jY l x 4 1 hl (by omega))).mono ?_; rintro e w1 ⟨rfl, hI1, hb1, hk1⟩; have HI1 := iC.mk hI1; have HK1 := iC.mk (hK.trans ⟨hb1, hk1⟩); clear hI1 hb1 hk1 hI hK)
      go_roundw
      case rel => exact ⟨2, by omega, by go_num, ⟨Bf.step (k := 1) HI1.out (by omega) (by first | rfl | (show _ = x / 65536 % 256; rw [IntKind.wrap_u64]; omega) | (show _ = x / 65536 % 256; omega))⟩, HK1⟩
      case measure => simp [intOf]
    · have hI := HI.out
      have hK := HK.out
      clear HI HK
      go_wp2_with (go_at_call 90; refine (Tryd.Buffer_WriteByte_kept B b _ _ wr hI (Nat.le_trans hB hK.size) (cells_one _) (jY l x 4 2 hl (by omega))).mono ?_; rintro e w1 ⟨rfl, hI1, hb1, hk1⟩; have HI1 := iC.mk hI1; have HK1 := iC.mk (hK.trans ⟨hb1, hk1⟩); clear hI1 hb1 hk1 hI hK)
      go_roundw
      case rel => exact ⟨3, by omega, by go_num, ⟨Bf.step (k := 2) HI1.out (by omega) (by first | rfl | (show _ = x / 256 % 256; rw [IntKind.wrap_u64]; omega) | (show _ = x / 256 % 256; omega))⟩, HK1⟩
      case measure => simp [intOf]
    · have hI := HI.out
      have hK := HK.out
      clear HI HK
      go_wp2_with (go_at_call 90; refine (Tryd.Buffer_WriteByte_kept B b _ _ wr hI (Nat.le_trans hB hK.size) (cells_one _) (jY l x 4 3 hl (by omega))).mono ?_; rintro e w1 ⟨rfl, hI1, hb1, hk1⟩; have HI1 := iC.mk hI1; have HK1 := iC.mk (hK.trans ⟨hb1, hk1⟩); clear hI1 hb1 hk1 hI hK)
      go_roundw
      case rel => exact ⟨4, by omega, by go_num, ⟨Bf.step (k := 3) HI1.out (by omega) (by first | rfl | (show _ = x / 1 % 256; rw [IntKind.wrap_u64]; omega) | (show _ = x / 1 % 256; omega))⟩, HK1⟩
      case measure => simp [intOf]
    · go_wp2
      go_end0
      refine ⟨rfl, ?_, HK.out⟩
      have := HI.out
      rwa [List.take_of_length_le (by rw [iL]; exact Nat.le_refl _)] at this
set_option maxHeartbeats 4000000 in
theorem TF (B b : Nat) (l : List UInt8) (x : Int) (w : World) (h : Bf B b l w) (hB : B ≤ w.heap.size) (hl : l.length + 8 ≤ 140737488355328) :
    Calls Tryd.prog 91 #[.pointer (some ⟨b, 0, none⟩), .int .i64 x, .int .i64 8] w fun e w' => e = .returned (.tuple #[]) ∧ Bf B b (l ++ layB x 8) w' ∧ Kp B b w w' := by
  have H0 := iC.mk h
  clear h
  go_enter Tryd.func91, Tryd.ntmps91
  go_wp2
  go_loopw [8] (fun i wr => ∃ k : Nat, k ≤ 8 ∧ i = .int .i64 k ∧ iC (Bf B b (l ++ (layB x 8).take k) wr) ∧ iC (Kp B b w wr)) (fun i _ => 8 - (intOf i).toNat)
  case atStart => exact ⟨0, Nat.zero_le _, rfl, ⟨by rw [List.take_zero, List.append_nil]; exact H0.out⟩, ⟨Kp.refl _ _ _⟩⟩
  case round =>
    obtain ⟨k, hk, rfl, HI, HK⟩ := hrel
    have h' : k = 0 ∨ k = 1 ∨ k = 2 ∨ k = 3 ∨ k = 4 ∨ k = 5 ∨ k = 6 ∨ k = 7 ∨ k = 8 := by omega
    rcases h' with rfl | rfl | rfl | rfl | rfl | rfl | rfl | rfl | rfl
    · have hI := HI.out
      have hK := HK.out
      clear HI HK
      go_wp2_with (go_at_call 90; refine (Tryd.Buffer_WriteByte_kept B b _ _ wr hI (Nat.le_trans hB hK.size) (cells_one _) (jY l x 8 0 hl (by omega))).mono ?_; rintro e w1 ⟨rfl, hI1, hb1, hk1⟩; have HI1 := iC.mk hI1; have HK1 := iC.mk (hK.trans ⟨hb1, hk1⟩); clear hI1 hb1 hk1 hI hK)
      go_roundw
      case rel => exact ⟨1, by omega, by go_num, ⟨Bf.step (k := 0) HI1.out (by omega) (by first | rfl | (show _ = x / 72057594037927936 % 256; rw [IntKind.wrap_u64]; omega) | (show _ = x / 72057594037927936 % 256; omega))⟩, HK1⟩
      case measure => simp [intOf]
    · have hI := HI.out
      have hK := HK.out
      clear HI HK
      go_wp2_with (go_at_call 90; refine (Tryd.Buffer_WriteByte_kept B b _ _ wr hI (Nat.le_trans hB hK.size) (cells_one _) (jY l x 8 1 hl (by omega))).mono ?_; rintro e w1 ⟨rfl, hI1, hb1, hk1⟩; have HI1 := iC.mk hI1; have HK1 := iC.mk (hK.trans ⟨hb1, hk1⟩); clear hI1 hb1 hk1 hI hK)
      go_roundw
      case rel => exact ⟨2, by omega, by go_num, ⟨Bf.step (k := 1) HI1.out (by omega) (by first | rfl | (show _ = x / 281474976710656 % 256; rw [IntKind.wrap_u64]; omega) | (show _ = x / 281474976710656 % 256; omega))⟩, HK1⟩
      case measure => simp [intOf]
    · have hI := HI.out
      have hK := HK.out
      clear HI HK
      go_wp2_with (go_at_call 90; refine (Tryd.Buffer_WriteByte_kept B b _ _ wr hI (Nat.le_trans hB hK.size) (cells_one _) (jY l x 8 2 hl (by omega))).mono ?_; rintro e w1 ⟨rfl, hI1, hb1, hk1⟩; have HI1 := iC.mk hI1; have HK1 := iC.mk (hK.trans ⟨hb1, hk1⟩); clear hI1 hb1 hk1 hI hK)
      go_roundw
      case rel => exact ⟨3, by omega, by go_num, ⟨Bf.step (k := 2) HI1.out (by omega) (by first | rfl | (show _ = x / 1099511627776 % 256; rw [IntKind.wrap_u64]; omega) | (show _ = x / 1099511627776 % 256; omega))⟩, HK1⟩
      case measure => simp [intOf]
    · have hI := HI.out
      have hK := HK.out
      clear HI HK
      go_wp2_with (go_at_call 90; refine (Tryd.Buffer_WriteByte_kept B b _ _ wr hI (Nat.le_trans hB hK.size) (cells_one _) (jY l x 8 3 hl (by omega))).mono ?_; rintro e w1 ⟨rfl, hI1, hb1, hk1⟩; have HI1 := iC.mk hI1; have HK1 := iC.mk (hK.trans ⟨hb1, hk1⟩); clear hI1 hb1 hk1 hI hK)
      go_roundw
      case rel => exact ⟨4, by omega, by go_num, ⟨Bf.step (k := 3) HI1.out (by omega) (by first | rfl | (show _ = x / 4294967296 % 256; rw [IntKind.wrap_u64]; omega) | (show _ = x / 4294967296 % 256; omega))⟩, HK1⟩
      case measure => simp [intOf]
    · have hI := HI.out
      have hK := HK.out
      clear HI HK
      go_wp2_with (go_at_call 90; refine (Tryd.Buffer_WriteByte_kept B b _ _ wr hI (Nat.le_trans hB hK.size) (cells_one _) (jY l x 8 4 hl (by omega))).mono ?_; rintro e w1 ⟨rfl, hI1, hb1, hk1⟩; have HI1 := iC.mk hI1; have HK1 := iC.mk (hK.trans ⟨hb1, hk1⟩); clear hI1 hb1 hk1 hI hK)
      go_roundw
      case rel => exact ⟨5, by omega, by go_num, ⟨Bf.step (k := 4) HI1.out (by omega) (by first | rfl | (show _ = x / 16777216 % 256; rw [IntKind.wrap_u64]; omega) | (show _ = x / 16777216 % 256; omega))⟩, HK1⟩
      case measure => simp [intOf]
    · have hI := HI.out
      have hK := HK.out
      clear HI HK
      go_wp2_with (go_at_call 90; refine (Tryd.Buffer_WriteByte_kept B b _ _ wr hI (Nat.le_trans hB hK.size) (cells_one _) (jY l x 8 5 hl (by omega))).mono ?_; rintro e w1 ⟨rfl, hI1, hb1, hk1⟩; have HI1 := iC.mk hI1; have HK1 := iC.mk (hK.trans ⟨hb1, hk1⟩); clear hI1 hb1 hk1 hI hK)
      go_roundw
      case rel => exact ⟨6, by omega, by go_num, ⟨Bf.step (k := 5) HI1.out (by omega) (by first | rfl | (show _ = x / 65536 % 256; rw [IntKind.wrap_u64]; omega) | (show _ = x / 65536 % 256; omega))⟩, HK1⟩
      case measure => simp [intOf]
    · have hI := HI.out
      have hK := HK.out
      clear HI HK
      go_wp2_with (go_at_call 90; refine (Tryd.Buffer_WriteByte_kept B b _ _ wr hI (Nat.le_trans hB hK.size) (cells_one _) (jY l x 8 6 hl (by omega))).mono ?_; rintro e w1 ⟨rfl, hI1, hb1, hk1⟩; have HI1 := iC.mk hI1; have HK1 := iC.mk (hK.trans ⟨hb1, hk1⟩); clear hI1 hb1 hk1 hI hK)
      go_roundw
      case rel => exact ⟨7, by omega, by go_num, ⟨Bf.step (k := 6) HI1.out (by omega) (by first | rfl | (show _ = x / 256 % 256; rw [IntKind.wrap_u64]; omega) | (show _ = x / 256 % 256; omega))⟩, HK1⟩
      case measure => simp [intOf]
    · have hI := HI.out
      have hK := HK.out
      clear HI HK
      go_wp2_with (go_at_call 90; refine (Tryd.Buffer_WriteByte_kept B b _ _ wr hI (Nat.le_trans hB hK.size) (cells_one _) (jY l x 8 7 hl (by omega))).mono ?_; rintro e w1 ⟨rfl, hI1, hb1, hk1⟩; have HI1 := iC.mk hI1; have HK1 := iC.mk (hK.trans ⟨hb1, hk1⟩); clear hI1 hb1 hk1 hI hK)
      go_roundw
      case rel => exact ⟨8, by omega, by go_num, ⟨Bf.step (k := 7) HI1.out (by omega) (by first | rfl | (show _ = x / 1 % 256; rw [IntKind.wrap_u64]; omega) | (show _ = x / 1 % 256; omega))⟩, HK1⟩
      case measure => simp [intOf]
    · go_wp2
      go_end0
      refine ⟨rfl, ?_, HK.out⟩
      have := HI.out
      rwa [List.take_of_length_le (by rw [iL]; exact Nat.le_refl _)] at this
end Go.Proofs.YtgfkgppomaapiaaDoor.K
end

section
namespace Go.Proofs.YtgfkgppomaapiaaDoor.K
open RowKit YtgfkgppomaapiaaDoorW.PrintWords YtgfkgppomaapiaaDoorW.PrintLast YtgfkgppomaapiaaDoorW.PrintMore My
theorem jZ {α : Type} (e : α → List UInt8) (z : α) (l : List α) (k : Nat) (h : k < l.length) : (l.take (k + 1)).flatMap e = (l.take k).flatMap e ++ e (l.getD k z) := by
  rw [mO z l k h, List.flatMap_append]
  simp
theorem nP {α : Type} (e : α → List UInt8) (l : List α) (k : Nat) : ((l.take k).flatMap e).length ≤ (l.flatMap e).length := by
  conv => rhs; rw [← List.take_append_drop k l, List.flatMap_append, List.length_append]
  omega
theorem yP (n : Nat) (l : List Int) : (l.flatMap (layB · n)).length = n * l.length := by
  induction l with
  | nil => rfl
  | cons x l ih => rw [List.flatMap_cons, List.length_append, ih, iL, List.length_cons, Nat.mul_add]; omega
theorem QX (l : List Int) (k : Nat) : rd l (k : Int) = l.getD k 0 := by unfold rd; rw [Int.toNat_natCast]
set_option maxHeartbeats 2000000 in
theorem qH (b : Nat) (l : List UInt8) (A : Option Addr) (c : Nat) (ns : List Int) (w0 w : World) (h : Bf w0.heap.size b l w) (hb : Below w0.heap.size w0 w) (hr : Kd.C (Kd.int .i64) w0 A ns.length ns) (hl : l.length + 1 + ns.length ≤ 140737488355328) :
    Calls Tryd.prog 51 #[.pointer (some ⟨b, 0, none⟩), .slice A ns.length c] w fun e w' => e = .returned (.tuple #[]) ∧ Bf w0.heap.size b (l ++ lN ns) w' ∧ Kp w0.heap.size b w w' := by
  have HR := iC.mk hr
  have H0 := iC.mk h
  have HB0 := iC.mk hb
  have hm := kQ hr
  clear hr h hb
  go_enter Tryd.func51, Tryd.ntmps51
  go_wp2_with (go_at_call 53; refine (oJ _ _ l _ _ H0.out HB0.out.size (by omega)).mono ?_; rintro e w1 ⟨rfl, hI, hK⟩; have HI1 := iC.mk hI; have HK1 := iC.mk hK; clear hI hK)
  go_loopw [12] (fun i wr => ∃ k : Nat, k ≤ ns.length ∧ i = .int .i64 k ∧ iC (Bf w0.heap.size b (l ++ layB ns.length 1 ++ (ns.take k).flatMap (layB · 1)) wr) ∧ iC (Kp w0.heap.size b w wr)) (fun i _ => ns.length - (intOf i).toNat)
  case atStart => exact ⟨0, Nat.zero_le _, rfl, ⟨by rw [List.take_zero, List.flatMap_nil, List.append_nil]; exact HI1.out⟩, HK1⟩
  case round =>
    obtain ⟨k, hk, rfl, HI, HK⟩ := hrel
    clear HI1 HK1
    by_cases hlt : k < ns.length
    · obtain ⟨ad, rfl, hx⟩ := Kd.at_int (Kd.C_below HR.out (HB0.out.trans HK.out.1)) (k : Int) (by omega) (by omega)
      rw [QX, Int.toNat_natCast] at hx
      have hts := iC.mk (jZ (layB · 1) 0 ns k hlt)
      have hlen : (l ++ layB ns.length 1 ++ (ns.take k).flatMap (layB · 1)).length + 1 ≤ 140737488355328 := by
        rw [List.length_append, List.length_append, iL, yP, List.length_take]
        omega
      have HL := iC.mk hlen
      clear hlen
      generalize ns.getD k 0 = v at hx hts
      go_wp2_with (go_at_call 53; refine (oJ _ _ _ _ _ HI.out (HB0.out.trans HK.out.1).size HL.out).mono ?_; rintro e w1 ⟨rfl, hI, hK⟩; have HI1 := iC.mk hI; have HK1 := iC.mk (HK.out.trans hK); clear hI hK)
      go_roundw
      case rel => exact ⟨k + 1, by omega, by go_num, ⟨by rw [hts.out, ← List.append_assoc]; exact HI1.out⟩, HK1⟩
      case measure => simp [intOf]; omega
    · obtain rfl : k = ns.length := by omega
      go_wp2
      go_end0
      refine ⟨rfl, ?_, HK.out⟩
      have := HI.out
      rw [List.take_length] at this
      rw [lN, ← List.append_assoc]
      exact this
def yA : jO := z139
theorem NR (l : List jO) (k : Nat) : iV l (k : Int) = l.getD k yA := by unfold iV yA; rw [Int.toNat_natCast]
theorem O4 (f : jO) : (mV f).length = 9 + 4 * f.f0.length := uP f
set_option maxHeartbeats 4000000 in
theorem vN (b : Nat) (l : List UInt8) (A : Option Addr) (c : Nat) (fs : List jO) (w0 w : World) (h : Bf w0.heap.size b l w) (hb : Below w0.heap.size w0 w) (hr : Kd.C k139 w0 A fs.length fs) (hl : l.length + (kC fs).length ≤ 140737488355328) :
    Calls Tryd.prog 52 #[.pointer (some ⟨b, 0, none⟩), .slice A fs.length c] w fun e w' => e = .returned (.tuple #[]) ∧ Bf w0.heap.size b (l ++ kC fs) w' ∧ Kp w0.heap.size b w w' := by
  have HR := iC.mk hr
  have H0 := iC.mk h
  have HB0 := iC.mk hb
  have hm := kQ hr
  have hl' : l.length + 4 + (fs.flatMap mV).length ≤ 140737488355328 := by
    unfold kC at hl
    rw [List.length_append, iL] at hl
    omega
  clear hr h hb hl
  go_enter Tryd.func52, Tryd.ntmps52
  go_wp2_with (go_at_call 53; refine (nD _ _ l _ _ H0.out HB0.out.size (by omega)).mono ?_; rintro e w1 ⟨rfl, hI, hK⟩; have HI1 := iC.mk hI; have HK1 := iC.mk hK; clear hI hK)
  go_loopw [14] (fun i wr => ∃ k : Nat, k ≤ fs.length ∧ i = .int .i64 k ∧ iC (Bf w0.heap.size b (l ++ layB fs.length 4 ++ (fs.take k).flatMap mV) wr) ∧ iC (Kp w0.heap.size b w wr)) (fun i _ => fs.length - (intOf i).toNat)
  case atStart => exact ⟨0, Nat.zero_le _, rfl, ⟨by rw [List.take_zero, List.flatMap_nil, List.append_nil]; exact HI1.out⟩, HK1⟩
  case round =>
    obtain ⟨k, hk, rfl, HI, HK⟩ := hrel
    clear HI1 HK1
    by_cases hlt : k < fs.length
    · obtain ⟨ad, A1, c1, rfl, hx0, hx1, hl1, hC1⟩ := kN (Kd.C_below HR.out (HB0.out.trans HK.out.1)) (k : Int) (by omega) (by omega)
      have hC0 : Kd.C (Kd.int .i64) w0 A1 (fs.getD k yA).f0.length (fs.getD k yA).f0 := by
        obtain ⟨ad2, A2, c2, e2, hy0, hy1, hl2, hC2⟩ := kN HR.out (k : Int) (by omega) (by omega)
        have hz := jW (HB0.out.trans HK.out.1) hy0
        injection e2 with e2
        subst e2
        rw [hx0] at hz
        injection hz with hz
        injection hz with hz1 hz2 hz3
        subst hz1
        rw [NR] at hC2
        exact hC2
      rw [NR] at hx0 hx1 hl1
      rw [Int.toNat_natCast] at hx0 hx1
      clear hC1
      have hts := iC.mk (jZ mV yA fs k hlt)
      have hle := nP mV fs (k + 1)
      rw [hts.out, List.length_append, O4] at hle
      obtain ⟨f, hf⟩ : ∃ f, f = fs.getD k yA := ⟨_, rfl⟩
      rw [← hf] at hx0 hx1 hl1 hC0 hts hle
      clear hf
      have HC0 := iC.mk hC0
      have hkm := kQ hC0
      obtain ⟨pre, hpre⟩ : ∃ p, p = l ++ layB fs.length 4 ++ (fs.take k).flatMap mV := ⟨_, rfl⟩
      have hpl : pre.length + 9 + 4 * f.f0.length ≤ 140737488355328 := by
        rw [hpre, List.length_append, List.length_append, iL]
        omega
      have hrest : l ++ layB fs.length 4 ++ (fs.take (k + 1)).flatMap mV = pre ++ mV f := by
        rw [hts.out, ← List.append_assoc, hpre]
      rw [← hpre] at HI
      have HREST := iC.mk hrest
      clear hts hpre hrest hle hC0 hl'
      obtain ⟨wo, rfl⟩ : ∃ wo : World, wo = wr := ⟨_, rfl⟩
      have HBX := iC.mk (Bf.alloc HI.out (.cells #[.slice A1 f.f0.length c1, .int .i64 f.f1] 139))
      have HKX := iC.mk (HK.out.alloc (HB0.out.trans HK.out.1).size (.cells #[.slice A1 f.f0.length c1, .int .i64 f.f1] 139))
      have hbne : w.heap.size ≤ w.heap.size := Nat.le_refl _
      have HNE := iC.mk (show wo.heap.size ≠ b from by have := HI.out.lt; omega)
      clear hbne
      go_wp2_with (go_at_call 53; refine (oJ _ _ pre _ _ HBX.out (HB0.out.trans HKX.out.1).size (by omega)).mono ?_; rintro e w1 ⟨rfl, hI, hK⟩; have HI1 := iC.mk hI; have HK1 := iC.mk (HKX.out.trans hK); have hblk := hK.block (iT rfl) HNE.out (by decide); have HBL := iC.mk hblk; clear hI hK; have hz0 := (iE hblk 0); have hz1 := (iE hblk 1); have hz0 : w1.cell? ⟨wo.heap.size, 0, none⟩ = some (.slice A1 f.f0.length c1) := hz0.trans rfl; have hz1 : w1.cell? ⟨wo.heap.size, 1, none⟩ = some (.int .i64 f.f1) := hz1.trans rfl; clear hblk)
      clear hz0 hz1
      go_loopw [26] (fun i wi => ∃ m : Nat, m ≤ f.f0.length ∧ i = .int .i64 m ∧ iC (Bf w0.heap.size b (pre ++ layB f.f0.length 1 ++ (f.f0.take m).flatMap (layB · 4)) wi) ∧ iC (Kp w0.heap.size b w wi) ∧ iC (wi.heap[wo.heap.size]? = some (.cells #[.slice A1 f.f0.length c1, .int .i64 f.f1] 139 (0, 0)))) (fun i _ => f.f0.length - (intOf i).toNat)
      case atStart => exact ⟨0, Nat.zero_le _, rfl, ⟨by rw [List.take_zero, List.flatMap_nil, List.append_nil]; exact HI1.out⟩, HK1, HBL⟩
      case round =>
        obtain ⟨m, hmx, rfl, HIm, HKm, HBm⟩ := hrel
        clear HI1 HK1 HBL
        have hcap : (pre ++ layB f.f0.length 1 ++ (f.f0.take m).flatMap (layB · 4)).length + 8 ≤ 140737488355328 := by
          rw [List.length_append, List.length_append, iL, yP, List.length_take]
          omega
        by_cases hml : m < f.f0.length
        · have HL := iC.mk (show (pre ++ layB f.f0.length 1 ++ (f.f0.take m).flatMap (layB · 4)).length + 4 ≤ 140737488355328 from by omega)
          obtain ⟨ad2, rfl, hx⟩ := Kd.at_int (Kd.C_below HC0.out (HB0.out.trans HKm.out.1)) (m : Int) (by omega) (by omega)
          rw [QX, Int.toNat_natCast] at hx
          have hts := iC.mk (jZ (layB · 4) 0 f.f0 m hml)
          generalize f.f0.getD m 0 = v at hx hts
          clear hcap
          go_wp2_with (go_at_call 53; refine (nD _ _ _ _ _ HIm.out (HB0.out.trans HKm.out.1).size HL.out).mono ?_; rintro e w1 ⟨rfl, hI, hK⟩; have HI1 := iC.mk hI; have HK1 := iC.mk (HKm.out.trans hK); have HB1 := iC.mk (hK.block HBm.out HNE.out (by decide)); clear hI hK)
          go_roundw
          case rel => exact ⟨m + 1, by omega, by go_num, ⟨by rw [hts.out, ← List.append_assoc]; exact HI1.out⟩, HK1, HB1⟩
          case measure => simp [intOf]; omega
        · obtain rfl : m = f.f0.length := by omega
          have hI' := HIm.out
          rw [List.take_length] at hI' hcap
          have HI' := iC.mk hI'
          have HCAP := iC.mk hcap
          clear hI' hcap HIm
          have hz1 : wr.cell? ⟨wo.heap.size, 1, none⟩ = some (.int .i64 f.f1) := (iE HBm.out 1).trans rfl
          go_wp2_with (go_at_call 91; refine (TF _ _ _ _ _ HI'.out (HB0.out.trans HKm.out.1).size HCAP.out).mono ?_; rintro e w1 ⟨rfl, hI, hK⟩; have HI1 := iC.mk hI; have HK1 := iC.mk (HKm.out.trans hK); clear hI hK)
          go_roundw
          case rel => exact ⟨k + 1, by omega, by go_num, ⟨by rw [HREST.out, mV, ← List.append_assoc, ← List.append_assoc]; exact HI1.out⟩, HK1⟩
          case measure => simp [intOf]; omega
    · obtain rfl : k = fs.length := by omega
      go_wp2
      go_end0
      refine ⟨rfl, ?_, HK.out⟩
      have := HI.out
      rw [List.take_length] at this
      rw [kC, ← List.append_assoc]
      exact this
def rG : jE := z86
theorem O1 (l : List jE) (k : Nat) : iP l (k : Int) = l.getD k rG := by unfold iP rG; rw [Int.toNat_natCast]
set_option maxHeartbeats 4000000 in
theorem vP (b : Nat) (l : List UInt8) (A : Option Addr) (c : Nat) (es : List jE) (w0 w : World) (h : Bf w0.heap.size b l w) (hb : Below w0.heap.size w0 w) (hr : Kd.C k86 w0 A es.length es) (hl : l.length + (jR es).length ≤ 140737488355328) :
    Calls Tryd.prog 54 #[.pointer (some ⟨b, 0, none⟩), .slice A es.length c] w fun e w' => e = .returned (.tuple #[]) ∧ Bf w0.heap.size b (l ++ jR es) w' ∧ Kp w0.heap.size b w w' := by
  have HR := iC.mk hr
  have H0 := iC.mk h
  have HB0 := iC.mk hb
  have hm := kQ hr
  have hl' : l.length + 4 + (es.flatMap lD).length ≤ 140737488355328 := by
    unfold jR at hl
    rw [List.length_append, iL] at hl
    omega
  clear hr h hb hl
  go_enter Tryd.func54, Tryd.ntmps54
  go_wp2_with (go_at_call 53; refine (nD _ _ l _ _ H0.out HB0.out.size (by omega)).mono ?_; rintro e w1 ⟨rfl, hI, hK⟩; have HI1 := iC.mk hI; have HK1 := iC.mk hK; clear hI hK)
  go_loopw [12] (fun i wr => ∃ k : Nat, k ≤ es.length ∧ i = .int .i64 k ∧ iC (Bf w0.heap.size b (l ++ layB es.length 4 ++ (es.take k).flatMap lD) wr) ∧ iC (Kp w0.heap.size b w wr)) (fun i _ => es.length - (intOf i).toNat)
  case atStart => exact ⟨0, Nat.zero_le _, rfl, ⟨by rw [List.take_zero, List.flatMap_nil, List.append_nil]; exact HI1.out⟩, HK1⟩
  case round =>
    obtain ⟨k, hk, rfl, HI, HK⟩ := hrel
    clear HI1 HK1
    by_cases hlt : k < es.length
    · obtain ⟨ad, A1, c1, rfl, hx0, hx1, hl1, hC1⟩ := kV (Kd.C_below HR.out (HB0.out.trans HK.out.1)) (k : Int) (by omega) (by omega)
      have hC0 : Kd.C k139 w0 A1 (es.getD k rG).f1.length (es.getD k rG).f1 := by
        obtain ⟨ad2, A2, c2, e2, hy0, hy1, hl2, hC2⟩ := kV HR.out (k : Int) (by omega) (by omega)
        have hz := jW (HB0.out.trans HK.out.1) hy1
        injection e2 with e2
        subst e2
        rw [hx1] at hz
        injection hz with hz
        injection hz with hz1 hz2 hz3
        subst hz1
        rw [O1] at hC2
        exact hC2
      rw [O1] at hx0 hx1 hl1
      rw [Int.toNat_natCast] at hx0 hx1
      clear hC1
      have hts := iC.mk (jZ lD rG es k hlt)
      have hle := nP lD es (k + 1)
      rw [hts.out, List.length_append] at hle
      obtain ⟨f, hf⟩ : ∃ f, f = es.getD k rG := ⟨_, rfl⟩
      rw [← hf] at hx0 hx1 hl1 hC0 hts hle
      clear hf
      have HC0 := iC.mk hC0
      have hkm := kQ hC0
      obtain ⟨pre, hpre⟩ : ∃ p, p = l ++ layB es.length 4 ++ (es.take k).flatMap lD := ⟨_, rfl⟩
      have hpl : pre.length + 4 + (kC f.f1).length ≤ 140737488355328 := by
        rw [lD, List.length_append, iL] at hle
        rw [hpre, List.length_append, List.length_append, iL]
        omega
      have HPL := iC.mk (show (pre ++ layB f.f0 4).length + (kC f.f1).length ≤ 140737488355328 from by rw [List.length_append, iL]; exact hpl)
      have hpl4 : pre.length + 4 ≤ 140737488355328 := by omega
      have HPL4 := iC.mk hpl4
      have hrest : l ++ layB es.length 4 ++ (es.take (k + 1)).flatMap lD = pre ++ lD f := by
        rw [hts.out, ← List.append_assoc, hpre]
      rw [← hpre] at HI
      have HREST := iC.mk hrest
      clear hts hpre hrest hle hC0 hl' hpl hpl4
      obtain ⟨wo, rfl⟩ : ∃ wo : World, wo = wr := ⟨_, rfl⟩
      have HBX := iC.mk (Bf.alloc HI.out (.cells #[.int .u32 f.f0, .slice A1 f.f1.length c1] 86))
      have HKX := iC.mk (HK.out.alloc (HB0.out.trans HK.out.1).size (.cells #[.int .u32 f.f0, .slice A1 f.f1.length c1] 86))
      have HNE := iC.mk (show wo.heap.size ≠ b from by have := HI.out.lt; omega)
      go_wp2_with (first | (go_at_call 50; refine (kX _ _ pre _ _ HBX.out (HB0.out.trans HKX.out.1).size HPL4.out).mono ?_; rintro e w1 ⟨rfl, hI, hK⟩; have HI1 := iC.mk hI; have HK1 := iC.mk (HKX.out.trans hK); have hblk := hK.block (iT rfl) HNE.out (by decide); clear hI hK; have hz1 := (iE hblk 1); have hz1 : w1.cell? ⟨wo.heap.size, 1, none⟩ = some (.slice A1 f.f1.length c1) := hz1.trans rfl; clear hblk) | (go_at_call 52; refine (vN _ _ _ _ f.f1 w0 _ HI1.out (HB0.out.trans HK1.out.1) HC0.out HPL.out).mono ?_; rintro e w2 ⟨rfl, hI, hK⟩; have HI2 := iC.mk hI; have HK2 := iC.mk (HK1.out.trans hK); clear hI hK))
      go_roundw
      case rel => exact ⟨k + 1, by omega, by go_num, ⟨by rw [HREST.out, lD, ← List.append_assoc]; exact HI2.out⟩, HK2⟩
      case measure => simp [intOf]; omega
    · obtain rfl : k = es.length := by omega
      go_wp2
      go_end0
      refine ⟨rfl, ?_, HK.out⟩
      have := HI.out
      rw [List.take_length] at this
      rw [jR, ← List.append_assoc]
      exact this
theorem qK (l : List jO) (h : lW l = true) : (kC l).length ≤ 5004 := by
  unfold lW at h
  simp only [Bool.and_eq_true, decide_eq_true_eq, List.all_eq_true] at h
  obtain ⟨h1, h2⟩ := h
  have : ∀ l : List jO, (∀ f ∈ l, nR f = true) → (l.flatMap mV).length ≤ 25 * l.length := by
    intro l
    induction l with
    | nil => intro _; simp
    | cons f l ih =>
      intro hf
      have h3 := hf f List.mem_cons_self
      unfold nR at h3
      simp only [Bool.and_eq_true, decide_eq_true_eq] at h3
      have := ih (fun g hg => hf g (List.mem_cons_of_mem _ hg))
      rw [List.flatMap_cons, List.length_append, uP, List.length_cons]
      omega
  have := this l h2
  unfold kC
  rw [List.length_append, iL]
  omega
theorem pX (l : List jE) (h : nC l = true) (h5 : l.length ≤ 5000) : (jR l).length ≤ 25040004 := by
  have : ∀ l : List jE, (∀ e ∈ l, lW e.f1 = true) → (l.flatMap lD).length ≤ 5008 * l.length := by
    intro l
    induction l with
    | nil => intro _; simp
    | cons e l ih =>
      intro hf
      have h3 := qK _ (hf e List.mem_cons_self)
      have := ih (fun g hg => hf g (List.mem_cons_of_mem _ hg))
      rw [List.flatMap_cons, List.length_append, List.length_cons, lD, List.length_append, iL]
      omega
  have := this l (JG l h)
  unfold jR
  rw [List.length_append, iL]
  omega
theorem o8 (l : List Int) (h : lU (-1) l = true) : l.length ≤ 6 := by
  have := (vV l (-1) h (by omega)).2
  omega
end Go.Proofs.YtgfkgppomaapiaaDoor.K
end

section
namespace Go.Proofs.YtgfkgppomaapiaaDoor.K
open RowKit YtgfkgppomaapiaaDoorW.PrintWords YtgfkgppomaapiaaDoorW.PrintLast YtgfkgppomaapiaaDoorW.PrintMore My
def nums (l : List UInt8) : List Int := l.map fun c => (c.toNat : Int)
theorem jD (l : List UInt8) : (nums l).length = l.length := List.length_map ..
def encR (r : SRec) : List Int × Int := if jJ r = true then (if 60000 < (recE r).length then ([], 3) else (nums (recE r), 0)) else ([], 1)
def code_Encode.f (a0_0 : Int) (a0_1 : Int) (a0_2 : Int) (l0_3 : List Int) (l0_4 : List jO) (a0_5 : Int) (l0_6 : List jV) (a0_7 : Int) (a0_8 : Int) (l0_9 : List jE) : Option (List Int × Int) :=
  some (encR ⟨a0_0, a0_1, a0_2, l0_3, l0_4, ⟨a0_5, l0_6⟩, a0_7, a0_8, l0_9⟩)
theorem oH {w : World} {B base : Nat} {v : Value} {l : List UInt8} (h : w.ownsRow B 5 1 v (Lib.byteCells l).length (Lib.byteCells l)) (hb : base ≤ B) : Kd.R (Kd.int .u8) 5 w base (fun _ => True) v (nums l) := by
  refine Kd.R_lower (Kd.R_of_own ?_ (fun _ _ => trivial)) hb
  have e : Lib.byteCells l = encs (Value.int .u8) (nums l) := by simp [Lib.byteCells, encs, nums]
  have e2 : (nums l).length = (Lib.byteCells l).length := by rw [jD, Lib.byteCells_length]
  rw [e2, ← e]
  exact h
theorem iU (l : List Int) : (lN l).length = 1 + l.length := by unfold lN; rw [List.length_append, iL, yP]; omega
def oG (w : World) (r : List Int × Int) (e : Ending) (w' : World) : Prop := ∃ v0_ : Value, e = .returned (.tuple #[v0_, .int .u16 r.2]) ∧ Kd.R (Kd.int .u8) 5 w' w.heap.size (fun _ => True) v0_ r.1 ∧ Below w.heap.size w w'
theorem RY (a1 a2 : Int) (l3 : List Int) (l4 : List jO) (a5 : Int) (l6 : List jV) (a7 a8 : Int) (l9 : List jE) : recE ⟨1, a1, a2, l3, l4, ⟨a5, l6⟩, a7, a8, l9⟩ = [] ++ layB 1 1 ++ layB a1 4 ++ lN l3 ++ kC l4 := by
  simp [recE, zM]
theorem TD (a1 a2 : Int) (l3 : List Int) (l4 : List jO) (a5 : Int) (l6 : List jV) (a7 a8 : Int) (l9 : List jE) : recE ⟨2, a1, a2, l3, l4, ⟨a5, l6⟩, a7, a8, l9⟩ = [] ++ layB 2 1 ++ layB a1 4 ++ layB a2 4 ++ lN l3 := by
  simp [recE, zM]
theorem TL (a1 a2 : Int) (l3 : List Int) (l4 : List jO) (a5 : Int) (l6 : List jV) (a7 a8 : Int) (l9 : List jE) : recE ⟨3, a1, a2, l3, l4, ⟨a5, l6⟩, a7, a8, l9⟩ = [] ++ layB 3 1 ++ layB a1 4 := by
  simp [recE, zM]
theorem RH (a1 a2 : Int) (l3 : List Int) (l4 : List jO) (a5 : Int) (l6 : List jV) (a7 a8 : Int) (l9 : List jE) : recE ⟨4, a1, a2, l3, l4, ⟨a5, l6⟩, a7, a8, l9⟩ = [] ++ layB 4 1 ++ layB a1 4 := by
  simp [recE, zM]
theorem RX (a1 a2 : Int) (l3 : List Int) (l4 : List jO) (a5 : Int) (l6 : List jV) (a7 a8 : Int) (l9 : List jE) : recE ⟨5, a1, a2, l3, l4, ⟨a5, l6⟩, a7, a8, l9⟩ = [] ++ layB 5 1 ++ layB a1 4 := by
  simp [recE, zM]
theorem TK (a1 a2 : Int) (l3 : List Int) (l4 : List jO) (a5 : Int) (l6 : List jV) (a7 a8 : Int) (l9 : List jE) : recE ⟨7, a1, a2, l3, l4, ⟨a5, l6⟩, a7, a8, l9⟩ = [] ++ layB 7 1 ++ layB a1 4 ++ layB a7 4 ++ layB a8 4 ++ jR l9 := by
  simp [recE, zM]
theorem RJ (a1 a2 : Int) (l3 : List Int) (l4 : List jO) (a5 : Int) (l6 : List jV) (a7 a8 : Int) (l9 : List jE) : recE ⟨6, a1, a2, l3, l4, ⟨a5, l6⟩, a7, a8, l9⟩ = [] ++ layB 6 1 ++ layB a1 4 ++ layB a5 4 ++ layB l6.length 1 ++ l6.flatMap mX := by
  simp [recE, zM, QY]
theorem rX (l : List jV) : (l.flatMap mX).length = 5 * l.length := by
  induction l with
  | nil => rfl
  | cons x l ih => rw [List.flatMap_cons, List.length_append, ih, mX, List.length_append, iL, iL, List.length_cons]; omega
theorem OX (l : List jV) (k : Nat) : jL l (k : Int) = l.getD k uX := by unfold jL uX; rw [Int.toNat_natCast]
section
variable (a0 a1 a2 : Int) (A3 : Option Addr) (c3 : Nat) (l3 : List Int) (A4 : Option Addr) (c4 : Nat) (l4 : List jO) (a5 : Int) (A6 : Option Addr) (c6 : Nat) (l6 : List jV) (a7 a8 : Int) (A9 : Option Addr) (c9 : Nat) (l9 : List jE) (w : World)
  (h3 : Kd.C (Kd.int .i64) w A3 l3.length l3) (d3 : l3.length ≤ c3) (h4 : Kd.C k139 w A4 l4.length l4) (d4 : l4.length ≤ c4) (h6 : Kd.C k98 w A6 l6.length l6) (d6 : l6.length ≤ c6) (h9 : Kd.C k86 w A9 l9.length l9) (d9 : l9.length ≤ c9)
include h3 d3 h4 d4 h6 d6 h9 d9
set_option maxHeartbeats 8000000 in
set_option maxRecDepth 20000 in
theorem PU (hs : jJ ⟨1, a1, a2, l3, l4, ⟨a5, l6⟩, a7, a8, l9⟩ = true) : Calls Tryd.prog 17 #[.agg #[.int .u8 1, .int .u32 a1, .int .u32 a2, .slice A3 l3.length c3, .slice A4 l4.length c4, .int .u32 a5, .slice A6 l6.length c6, .int .i64 a7, .int .i64 a8, .slice A9 l9.length c9]] w (oG w (encR ⟨1, a1, a2, l3, l4, ⟨a5, l6⟩, a7, a8, l9⟩)) := by
  have H3 := iC.mk h3; have H4 := iC.mk h4; have H6 := iC.mk h6; have H9 := iC.mk h9
  clear h3 h4 h6 h9
  have HS := iC.mk hs
  have hl3 : l3.length ≤ 6 ∧ (kC l4).length ≤ 5004 := by
    have h := HS.out
    rw [PK, Bool.and_eq_true, Bool.and_eq_true] at h
    exact ⟨o8 _ h.1.1, qK _ h.1.2⟩
  obtain ⟨q3, q4⟩ := hl3
  unfold encR
  rw [if_pos HS.out]
  have hm3 := kQ H3.out
  have hm6 := kQ H6.out
  obtain ⟨X, hX⟩ : ∃ X : List UInt8, X = recE ⟨1, a1, a2, l3, l4, ⟨a5, l6⟩, a7, a8, l9⟩ := ⟨_, rfl⟩
  rw [← hX]
  have HX := iC.mk hX
  have HLEN := iC.mk (show X.length = _ from congrArg List.length (hX.trans (RY _ _ _ _ _ _ _ _ _)))
  clear hs hX
  by_cases hbig : 60000 < X.length
  · rw [if_pos hbig]
    have hbigI : (60000 : Int) < (X.length : Int) := by omega
    clear hbig
    go_enter Tryd.func17, Tryd.ntmps17
    go_wp2_with (first | (go_at_call 19; refine (code_Sound.calls 1 a1 a2 A3 c3 l3 A4 c4 l4 a5 A6 c6 l6 a7 a8 A9 c9 l9 _ _ (Kd.C_below H3.out bel_) d3 (Kd.C_below H4.out bel_) d4 (Kd.C_below H6.out bel_) d6 (Kd.C_below H9.out bel_) d9 rfl).mono ?_; rintro e w1 ⟨rfl, hb1⟩; rw [HS.out]; have HBW := iC.mk (show Below w.heap.size w w1 from iI (iF (Below.refl _ _) _) hb1); have HBK := iC.mk (iK hb1 (iT rfl)); clear hb1; have HI0 := iC.mk (Bf.fresh w1); have HK0 := iC.mk ((Kp.refl w1.heap.size w1.heap.size w1).alloc (Nat.le_refl _) (.cells #[.slice none 0 0, .int .i64 0, .int .i8 0] 91)); obtain ⟨z0, z1, z2, z3, z4, z5, z6, z7, z8, z9, y0, y1, y2, y3, y4, y5, y6, y7, y8, y9⟩ := ten (jG (o := (.cells #[.slice none 0 0, .int .i64 0, .int .i8 0] 91)) HBK.out); clear y0 y1 y2 y3 y4 y5 y6 y7 y8 y9) | (go_at_call 49; refine (nT w1.heap.size w1.heap.size _ _ _ HI0.out HK0.out.1.size (by first | omega | (simp only [List.length_append, iL, List.length_nil, iU]; omega))).mono ?_; rintro e w2 ⟨rfl, hI, hK⟩; have HI1 := iC.mk hI; have HK1 := iC.mk (HK0.out.trans hK); clear hI hK z0 z1 z2 z3 z4 z5 z6 z7 z8 z9; obtain ⟨z0, z1, z2, z3, z4, z5, z6, z7, z8, z9, y0, y1, y2, y3, y4, y5, y6, y7, y8, y9⟩ := ten (iK HK1.out.1 HBK.out); clear y0 y1 y2 y3 y4 y5 y6 y7 y8 y9) | (go_at_call 50; refine (kX w1.heap.size w1.heap.size _ _ _ HI1.out HK1.out.1.size (by first | omega | (simp only [List.length_append, iL, List.length_nil, iU]; omega))).mono ?_; rintro e w3 ⟨rfl, hI, hK⟩; have HI2 := iC.mk hI; have HK2 := iC.mk (HK1.out.trans hK); clear hI hK z0 z1 z2 z3 z4 z5 z6 z7 z8 z9; obtain ⟨z0, z1, z2, z3, z4, z5, z6, z7, z8, z9, y0, y1, y2, y3, y4, y5, y6, y7, y8, y9⟩ := ten (iK HK2.out.1 HBK.out); clear y0 y1 y2 y3 y4 y5 y6 y7 y8 y9) | (go_at_call 51; refine (qH w1.heap.size _ _ _ l3 w1 _ HI2.out HK2.out.1 (Kd.C_below H3.out HBW.out) (by first | omega | (simp only [List.length_append, iL, List.length_nil, iU]; omega))).mono ?_; rintro e w4 ⟨rfl, hI, hK⟩; have HI3 := iC.mk hI; have HK3 := iC.mk (HK2.out.trans hK); clear hI hK z0 z1 z2 z3 z4 z5 z6 z7 z8 z9; obtain ⟨z0, z1, z2, z3, z4, z5, z6, z7, z8, z9, y0, y1, y2, y3, y4, y5, y6, y7, y8, y9⟩ := ten (iK HK3.out.1 HBK.out); clear y0 y1 y2 y3 y4 y5 y6 y7 y8 y9) | (go_at_call 52; refine (vN w1.heap.size _ _ _ l4 w1 _ HI3.out HK3.out.1 (Kd.C_below H4.out HBW.out) (by first | omega | (simp only [List.length_append, iL, List.length_nil, iU]; omega))).mono ?_; rintro e w5 ⟨rfl, hI, hK⟩; have HI4 := iC.mk hI; have HK4 := iC.mk (HK3.out.trans hK); clear hI hK z0 z1 z2 z3 z4 z5 z6 z7 z8 z9; obtain ⟨z0, z1, z2, z3, z4, z5, z6, z7, z8, z9, y0, y1, y2, y3, y4, y5, y6, y7, y8, y9⟩ := ten (iK HK4.out.1 HBK.out); clear y0 y1 y2 y3 y4 y5 y6 y7 y8 y9) | (go_at_call 55; refine (Tryd.Buffer_Len w1.heap.size w1.heap.size _ _ (HI4.out)).mono ?_; rintro e wl ⟨rfl, nl, rfl⟩; rw [Lib.byteCells_length, ← HLEN.out]))
    go_ret2
    exact ⟨_, rfl, Kd.R_nil _ _ _ _ _, by have hz := HBW.out; have hy := HK4.out.1; exact iG (iI hz hy) _⟩
  · rw [if_neg hbig]
    have hbigI : ¬ (60000 : Int) < (X.length : Int) := by omega
    clear hbig
    go_enter Tryd.func17, Tryd.ntmps17
    go_wp2_with (first | (go_at_call 19; refine (code_Sound.calls 1 a1 a2 A3 c3 l3 A4 c4 l4 a5 A6 c6 l6 a7 a8 A9 c9 l9 _ _ (Kd.C_below H3.out bel_) d3 (Kd.C_below H4.out bel_) d4 (Kd.C_below H6.out bel_) d6 (Kd.C_below H9.out bel_) d9 rfl).mono ?_; rintro e w1 ⟨rfl, hb1⟩; rw [HS.out]; have HBW := iC.mk (show Below w.heap.size w w1 from iI (iF (Below.refl _ _) _) hb1); have HBK := iC.mk (iK hb1 (iT rfl)); clear hb1; have HI0 := iC.mk (Bf.fresh w1); have HK0 := iC.mk ((Kp.refl w1.heap.size w1.heap.size w1).alloc (Nat.le_refl _) (.cells #[.slice none 0 0, .int .i64 0, .int .i8 0] 91)); obtain ⟨z0, z1, z2, z3, z4, z5, z6, z7, z8, z9, y0, y1, y2, y3, y4, y5, y6, y7, y8, y9⟩ := ten (jG (o := (.cells #[.slice none 0 0, .int .i64 0, .int .i8 0] 91)) HBK.out); clear y0 y1 y2 y3 y4 y5 y6 y7 y8 y9) | (go_at_call 49; refine (nT w1.heap.size w1.heap.size _ _ _ HI0.out HK0.out.1.size (by first | omega | (simp only [List.length_append, iL, List.length_nil, iU]; omega))).mono ?_; rintro e w2 ⟨rfl, hI, hK⟩; have HI1 := iC.mk hI; have HK1 := iC.mk (HK0.out.trans hK); clear hI hK z0 z1 z2 z3 z4 z5 z6 z7 z8 z9; obtain ⟨z0, z1, z2, z3, z4, z5, z6, z7, z8, z9, y0, y1, y2, y3, y4, y5, y6, y7, y8, y9⟩ := ten (iK HK1.out.1 HBK.out); clear y0 y1 y2 y3 y4 y5 y6 y7 y8 y9) | (go_at_call 50; refine (kX w1.heap.size w1.heap.size _ _ _ HI1.out HK1.out.1.size (by first | omega | (simp only [List.length_append, iL, List.length_nil, iU]; omega))).mono ?_; rintro e w3 ⟨rfl, hI, hK⟩; have HI2 := iC.mk hI; have HK2 := iC.mk (HK1.out.trans hK); clear hI hK z0 z1 z2 z3 z4 z5 z6 z7 z8 z9; obtain ⟨z0, z1, z2, z3, z4, z5, z6, z7, z8, z9, y0, y1, y2, y3, y4, y5, y6, y7, y8, y9⟩ := ten (iK HK2.out.1 HBK.out); clear y0 y1 y2 y3 y4 y5 y6 y7 y8 y9) | (go_at_call 51; refine (qH w1.heap.size _ _ _ l3 w1 _ HI2.out HK2.out.1 (Kd.C_below H3.out HBW.out) (by first | omega | (simp only [List.length_append, iL, List.length_nil, iU]; omega))).mono ?_; rintro e w4 ⟨rfl, hI, hK⟩; have HI3 := iC.mk hI; have HK3 := iC.mk (HK2.out.trans hK); clear hI hK z0 z1 z2 z3 z4 z5 z6 z7 z8 z9; obtain ⟨z0, z1, z2, z3, z4, z5, z6, z7, z8, z9, y0, y1, y2, y3, y4, y5, y6, y7, y8, y9⟩ := ten (iK HK3.out.1 HBK.out); clear y0 y1 y2 y3 y4 y5 y6 y7 y8 y9) | (go_at_call 52; refine (vN w1.heap.size _ _ _ l4 w1 _ HI3.out HK3.out.1 (Kd.C_below H4.out HBW.out) (by first | omega | (simp only [List.length_append, iL, List.length_nil, iU]; omega))).mono ?_; rintro e w5 ⟨rfl, hI, hK⟩; have HI4 := iC.mk hI; have HK4 := iC.mk (HK3.out.trans hK); clear hI hK z0 z1 z2 z3 z4 z5 z6 z7 z8 z9; obtain ⟨z0, z1, z2, z3, z4, z5, z6, z7, z8, z9, y0, y1, y2, y3, y4, y5, y6, y7, y8, y9⟩ := ten (iK HK4.out.1 HBK.out); clear y0 y1 y2 y3 y4 y5 y6 y7 y8 y9) | (go_at_call 55; refine (Tryd.Buffer_Len w1.heap.size w1.heap.size _ _ (HI4.out)).mono ?_; rintro e wl ⟨rfl, nl, rfl⟩; rw [Lib.byteCells_length, ← HLEN.out]) | (go_at_call 56; refine (Tryd.Buffer_Bytes w1.heap.size w1.heap.size _ _ (HI4.out.drewN _)).mono ?_; rintro e wb ⟨v, rfl, hv, nb, rfl⟩; have HV := iC.mk hv; clear hv))
    go_ret2
    exact ⟨_, rfl, by rw [HX.out, RY]; exact oH HV.out HBW.out.size, by have hz := HBW.out; have hy := HK4.out.1; exact iG (iI hz hy) _⟩
set_option maxHeartbeats 8000000 in
set_option maxRecDepth 20000 in
theorem QA (hs : jJ ⟨2, a1, a2, l3, l4, ⟨a5, l6⟩, a7, a8, l9⟩ = true) : Calls Tryd.prog 17 #[.agg #[.int .u8 2, .int .u32 a1, .int .u32 a2, .slice A3 l3.length c3, .slice A4 l4.length c4, .int .u32 a5, .slice A6 l6.length c6, .int .i64 a7, .int .i64 a8, .slice A9 l9.length c9]] w (oG w (encR ⟨2, a1, a2, l3, l4, ⟨a5, l6⟩, a7, a8, l9⟩)) := by
  have H3 := iC.mk h3; have H4 := iC.mk h4; have H6 := iC.mk h6; have H9 := iC.mk h9
  clear h3 h4 h6 h9
  have HS := iC.mk hs
  have q3 : l3.length ≤ 6 := by
    have h := HS.out
    rw [ND, Bool.and_eq_true] at h
    exact o8 _ h.1
  unfold encR
  rw [if_pos HS.out]
  have hm3 := kQ H3.out
  have hm6 := kQ H6.out
  obtain ⟨X, hX⟩ : ∃ X : List UInt8, X = recE ⟨2, a1, a2, l3, l4, ⟨a5, l6⟩, a7, a8, l9⟩ := ⟨_, rfl⟩
  rw [← hX]
  have HX := iC.mk hX
  have HLEN := iC.mk (show X.length = _ from congrArg List.length (hX.trans (TD _ _ _ _ _ _ _ _ _)))
  clear hs hX
  by_cases hbig : 60000 < X.length
  · rw [if_pos hbig]
    have hbigI : (60000 : Int) < (X.length : Int) := by omega
    clear hbig
    go_enter Tryd.func17, Tryd.ntmps17
    go_wp2_with (first | (go_at_call 19; refine (code_Sound.calls 2 a1 a2 A3 c3 l3 A4 c4 l4 a5 A6 c6 l6 a7 a8 A9 c9 l9 _ _ (Kd.C_below H3.out bel_) d3 (Kd.C_below H4.out bel_) d4 (Kd.C_below H6.out bel_) d6 (Kd.C_below H9.out bel_) d9 rfl).mono ?_; rintro e w1 ⟨rfl, hb1⟩; rw [HS.out]; have HBW := iC.mk (show Below w.heap.size w w1 from iI (iF (Below.refl _ _) _) hb1); have HBK := iC.mk (iK hb1 (iT rfl)); clear hb1; have HI0 := iC.mk (Bf.fresh w1); have HK0 := iC.mk ((Kp.refl w1.heap.size w1.heap.size w1).alloc (Nat.le_refl _) (.cells #[.slice none 0 0, .int .i64 0, .int .i8 0] 91)); obtain ⟨z0, z1, z2, z3, z4, z5, z6, z7, z8, z9, y0, y1, y2, y3, y4, y5, y6, y7, y8, y9⟩ := ten (jG (o := (.cells #[.slice none 0 0, .int .i64 0, .int .i8 0] 91)) HBK.out); clear y0 y1 y2 y3 y4 y5 y6 y7 y8 y9) | (go_at_call 49; refine (nT w1.heap.size w1.heap.size _ _ _ HI0.out HK0.out.1.size (by first | omega | (simp only [List.length_append, iL, List.length_nil, iU]; omega))).mono ?_; rintro e w2 ⟨rfl, hI, hK⟩; have HI1 := iC.mk hI; have HK1 := iC.mk (HK0.out.trans hK); clear hI hK z0 z1 z2 z3 z4 z5 z6 z7 z8 z9; obtain ⟨z0, z1, z2, z3, z4, z5, z6, z7, z8, z9, y0, y1, y2, y3, y4, y5, y6, y7, y8, y9⟩ := ten (iK HK1.out.1 HBK.out); clear y0 y1 y2 y3 y4 y5 y6 y7 y8 y9) | (go_at_call 50; refine (kX w1.heap.size w1.heap.size _ _ _ HI1.out HK1.out.1.size (by first | omega | (simp only [List.length_append, iL, List.length_nil, iU]; omega))).mono ?_; rintro e w3 ⟨rfl, hI, hK⟩; have HI2 := iC.mk hI; have HK2 := iC.mk (HK1.out.trans hK); clear hI hK z0 z1 z2 z3 z4 z5 z6 z7 z8 z9; obtain ⟨z0, z1, z2, z3, z4, z5, z6, z7, z8, z9, y0, y1, y2, y3, y4, y5, y6, y7, y8, y9⟩ := ten (iK HK2.out.1 HBK.out); clear y0 y1 y2 y3 y4 y5 y6 y7 y8 y9) | (go_at_call 50; refine (kX w1.heap.size w1.heap.size _ _ _ HI2.out HK2.out.1.size (by first | omega | (simp only [List.length_append, iL, List.length_nil, iU]; omega))).mono ?_; rintro e w4 ⟨rfl, hI, hK⟩; have HI3 := iC.mk hI; have HK3 := iC.mk (HK2.out.trans hK); clear hI hK z0 z1 z2 z3 z4 z5 z6 z7 z8 z9; obtain ⟨z0, z1, z2, z3, z4, z5, z6, z7, z8, z9, y0, y1, y2, y3, y4, y5, y6, y7, y8, y9⟩ := ten (iK HK3.out.1 HBK.out); clear y0 y1 y2 y3 y4 y5 y6 y7 y8 y9) | (go_at_call 51; refine (qH w1.heap.size _ _ _ l3 w1 _ HI3.out HK3.out.1 (Kd.C_below H3.out HBW.out) (by first | omega | (simp only [List.length_append, iL, List.length_nil, iU]; omega))).mono ?_; rintro e w5 ⟨rfl, hI, hK⟩; have HI4 := iC.mk hI; have HK4 := iC.mk (HK3.out.trans hK); clear hI hK z0 z1 z2 z3 z4 z5 z6 z7 z8 z9; obtain ⟨z0, z1, z2, z3, z4, z5, z6, z7, z8, z9, y0, y1, y2, y3, y4, y5, y6, y7, y8, y9⟩ := ten (iK HK4.out.1 HBK.out); clear y0 y1 y2 y3 y4 y5 y6 y7 y8 y9) | (go_at_call 55; refine (Tryd.Buffer_Len w1.heap.size w1.heap.size _ _ (HI4.out)).mono ?_; rintro e wl ⟨rfl, nl, rfl⟩; rw [Lib.byteCells_length, ← HLEN.out]))
    go_ret2
    exact ⟨_, rfl, Kd.R_nil _ _ _ _ _, by have hz := HBW.out; have hy := HK4.out.1; exact iG (iI hz hy) _⟩
  · rw [if_neg hbig]
    have hbigI : ¬ (60000 : Int) < (X.length : Int) := by omega
    clear hbig
    go_enter Tryd.func17, Tryd.ntmps17
    go_wp2_with (first | (go_at_call 19; refine (code_Sound.calls 2 a1 a2 A3 c3 l3 A4 c4 l4 a5 A6 c6 l6 a7 a8 A9 c9 l9 _ _ (Kd.C_below H3.out bel_) d3 (Kd.C_below H4.out bel_) d4 (Kd.C_below H6.out bel_) d6 (Kd.C_below H9.out bel_) d9 rfl).mono ?_; rintro e w1 ⟨rfl, hb1⟩; rw [HS.out]; have HBW := iC.mk (show Below w.heap.size w w1 from iI (iF (Below.refl _ _) _) hb1); have HBK := iC.mk (iK hb1 (iT rfl)); clear hb1; have HI0 := iC.mk (Bf.fresh w1); have HK0 := iC.mk ((Kp.refl w1.heap.size w1.heap.size w1).alloc (Nat.le_refl _) (.cells #[.slice none 0 0, .int .i64 0, .int .i8 0] 91)); obtain ⟨z0, z1, z2, z3, z4, z5, z6, z7, z8, z9, y0, y1, y2, y3, y4, y5, y6, y7, y8, y9⟩ := ten (jG (o := (.cells #[.slice none 0 0, .int .i64 0, .int .i8 0] 91)) HBK.out); clear y0 y1 y2 y3 y4 y5 y6 y7 y8 y9) | (go_at_call 49; refine (nT w1.heap.size w1.heap.size _ _ _ HI0.out HK0.out.1.size (by first | omega | (simp only [List.length_append, iL, List.length_nil, iU]; omega))).mono ?_; rintro e w2 ⟨rfl, hI, hK⟩; have HI1 := iC.mk hI; have HK1 := iC.mk (HK0.out.trans hK); clear hI hK z0 z1 z2 z3 z4 z5 z6 z7 z8 z9; obtain ⟨z0, z1, z2, z3, z4, z5, z6, z7, z8, z9, y0, y1, y2, y3, y4, y5, y6, y7, y8, y9⟩ := ten (iK HK1.out.1 HBK.out); clear y0 y1 y2 y3 y4 y5 y6 y7 y8 y9) | (go_at_call 50; refine (kX w1.heap.size w1.heap.size _ _ _ HI1.out HK1.out.1.size (by first | omega | (simp only [List.length_append, iL, List.length_nil, iU]; omega))).mono ?_; rintro e w3 ⟨rfl, hI, hK⟩; have HI2 := iC.mk hI; have HK2 := iC.mk (HK1.out.trans hK); clear hI hK z0 z1 z2 z3 z4 z5 z6 z7 z8 z9; obtain ⟨z0, z1, z2, z3, z4, z5, z6, z7, z8, z9, y0, y1, y2, y3, y4, y5, y6, y7, y8, y9⟩ := ten (iK HK2.out.1 HBK.out); clear y0 y1 y2 y3 y4 y5 y6 y7 y8 y9) | (go_at_call 50; refine (kX w1.heap.size w1.heap.size _ _ _ HI2.out HK2.out.1.size (by first | omega | (simp only [List.length_append, iL, List.length_nil, iU]; omega))).mono ?_; rintro e w4 ⟨rfl, hI, hK⟩; have HI3 := iC.mk hI; have HK3 := iC.mk (HK2.out.trans hK); clear hI hK z0 z1 z2 z3 z4 z5 z6 z7 z8 z9; obtain ⟨z0, z1, z2, z3, z4, z5, z6, z7, z8, z9, y0, y1, y2, y3, y4, y5, y6, y7, y8, y9⟩ := ten (iK HK3.out.1 HBK.out); clear y0 y1 y2 y3 y4 y5 y6 y7 y8 y9) | (go_at_call 51; refine (qH w1.heap.size _ _ _ l3 w1 _ HI3.out HK3.out.1 (Kd.C_below H3.out HBW.out) (by first | omega | (simp only [List.length_append, iL, List.length_nil, iU]; omega))).mono ?_; rintro e w5 ⟨rfl, hI, hK⟩; have HI4 := iC.mk hI; have HK4 := iC.mk (HK3.out.trans hK); clear hI hK z0 z1 z2 z3 z4 z5 z6 z7 z8 z9; obtain ⟨z0, z1, z2, z3, z4, z5, z6, z7, z8, z9, y0, y1, y2, y3, y4, y5, y6, y7, y8, y9⟩ := ten (iK HK4.out.1 HBK.out); clear y0 y1 y2 y3 y4 y5 y6 y7 y8 y9) | (go_at_call 55; refine (Tryd.Buffer_Len w1.heap.size w1.heap.size _ _ (HI4.out)).mono ?_; rintro e wl ⟨rfl, nl, rfl⟩; rw [Lib.byteCells_length, ← HLEN.out]) | (go_at_call 56; refine (Tryd.Buffer_Bytes w1.heap.size w1.heap.size _ _ (HI4.out.drewN _)).mono ?_; rintro e wb ⟨v, rfl, hv, nb, rfl⟩; have HV := iC.mk hv; clear hv))
    go_ret2
    exact ⟨_, rfl, by rw [HX.out, TD]; exact oH HV.out HBW.out.size, by have hz := HBW.out; have hy := HK4.out.1; exact iG (iI hz hy) _⟩
set_option maxHeartbeats 8000000 in
set_option maxRecDepth 20000 in
theorem QS (hs : jJ ⟨3, a1, a2, l3, l4, ⟨a5, l6⟩, a7, a8, l9⟩ = true) : Calls Tryd.prog 17 #[.agg #[.int .u8 3, .int .u32 a1, .int .u32 a2, .slice A3 l3.length c3, .slice A4 l4.length c4, .int .u32 a5, .slice A6 l6.length c6, .int .i64 a7, .int .i64 a8, .slice A9 l9.length c9]] w (oG w (encR ⟨3, a1, a2, l3, l4, ⟨a5, l6⟩, a7, a8, l9⟩)) := by
  have H3 := iC.mk h3; have H4 := iC.mk h4; have H6 := iC.mk h6; have H9 := iC.mk h9
  clear h3 h4 h6 h9
  have HS := iC.mk hs
  unfold encR
  rw [if_pos HS.out]
  have hm3 := kQ H3.out
  have hm6 := kQ H6.out
  obtain ⟨X, hX⟩ : ∃ X : List UInt8, X = recE ⟨3, a1, a2, l3, l4, ⟨a5, l6⟩, a7, a8, l9⟩ := ⟨_, rfl⟩
  rw [← hX]
  have HX := iC.mk hX
  have HLEN := iC.mk (show X.length = _ from congrArg List.length (hX.trans (TL _ _ _ _ _ _ _ _ _)))
  clear hs hX
  by_cases hbig : 60000 < X.length
  · rw [if_pos hbig]
    have hbigI : (60000 : Int) < (X.length : Int) := by omega
    clear hbig
    go_enter Tryd.func17, Tryd.ntmps17
    go_wp2_with (first | (go_at_call 19; refine (code_Sound.calls 3 a1 a2 A3 c3 l3 A4 c4 l4 a5 A6 c6 l6 a7 a8 A9 c9 l9 _ _ (Kd.C_below H3.out bel_) d3 (Kd.C_below H4.out bel_) d4 (Kd.C_below H6.out bel_) d6 (Kd.C_below H9.out bel_) d9 rfl).mono ?_; rintro e w1 ⟨rfl, hb1⟩; rw [HS.out]; have HBW := iC.mk (show Below w.heap.size w w1 from iI (iF (Below.refl _ _) _) hb1); have HBK := iC.mk (iK hb1 (iT rfl)); clear hb1; have HI0 := iC.mk (Bf.fresh w1); have HK0 := iC.mk ((Kp.refl w1.heap.size w1.heap.size w1).alloc (Nat.le_refl _) (.cells #[.slice none 0 0, .int .i64 0, .int .i8 0] 91)); obtain ⟨z0, z1, z2, z3, z4, z5, z6, z7, z8, z9, y0, y1, y2, y3, y4, y5, y6, y7, y8, y9⟩ := ten (jG (o := (.cells #[.slice none 0 0, .int .i64 0, .int .i8 0] 91)) HBK.out); clear y0 y1 y2 y3 y4 y5 y6 y7 y8 y9) | (go_at_call 49; refine (nT w1.heap.size w1.heap.size _ _ _ HI0.out HK0.out.1.size (by first | omega | (simp only [List.length_append, iL, List.length_nil, iU]; omega))).mono ?_; rintro e w2 ⟨rfl, hI, hK⟩; have HI1 := iC.mk hI; have HK1 := iC.mk (HK0.out.trans hK); clear hI hK z0 z1 z2 z3 z4 z5 z6 z7 z8 z9; obtain ⟨z0, z1, z2, z3, z4, z5, z6, z7, z8, z9, y0, y1, y2, y3, y4, y5, y6, y7, y8, y9⟩ := ten (iK HK1.out.1 HBK.out); clear y0 y1 y2 y3 y4 y5 y6 y7 y8 y9) | (go_at_call 50; refine (kX w1.heap.size w1.heap.size _ _ _ HI1.out HK1.out.1.size (by first | omega | (simp only [List.length_append, iL, List.length_nil, iU]; omega))).mono ?_; rintro e w3 ⟨rfl, hI, hK⟩; have HI2 := iC.mk hI; have HK2 := iC.mk (HK1.out.trans hK); clear hI hK z0 z1 z2 z3 z4 z5 z6 z7 z8 z9; obtain ⟨z0, z1, z2, z3, z4, z5, z6, z7, z8, z9, y0, y1, y2, y3, y4, y5, y6, y7, y8, y9⟩ := ten (iK HK2.out.1 HBK.out); clear y0 y1 y2 y3 y4 y5 y6 y7 y8 y9) | (go_at_call 55; refine (Tryd.Buffer_Len w1.heap.size w1.heap.size _ _ (HI2.out)).mono ?_; rintro e wl ⟨rfl, nl, rfl⟩; rw [Lib.byteCells_length, ← HLEN.out]))
    go_ret2
    exact ⟨_, rfl, Kd.R_nil _ _ _ _ _, by have hz := HBW.out; have hy := HK2.out.1; exact iG (iI hz hy) _⟩
  · rw [if_neg hbig]
    have hbigI : ¬ (60000 : Int) < (X.length : Int) := by omega
    clear hbig
    go_enter Tryd.func17, Tryd.ntmps17
    go_wp2_with (first | (go_at_call 19; refine (code_Sound.calls 3 a1 a2 A3 c3 l3 A4 c4 l4 a5 A6 c6 l6 a7 a8 A9 c9 l9 _ _ (Kd.C_below H3.out bel_) d3 (Kd.C_below H4.out bel_) d4 (Kd.C_below H6.out bel_) d6 (Kd.C_below H9.out bel_) d9 rfl).mono ?_; rintro e w1 ⟨rfl, hb1⟩; rw [HS.out]; have HBW := iC.mk (show Below w.heap.size w w1 from iI (iF (Below.refl _ _) _) hb1); have HBK := iC.mk (iK hb1 (iT rfl)); clear hb1; have HI0 := iC.mk (Bf.fresh w1); have HK0 := iC.mk ((Kp.refl w1.heap.size w1.heap.size w1).alloc (Nat.le_refl _) (.cells #[.slice none 0 0, .int .i64 0, .int .i8 0] 91)); obtain ⟨z0, z1, z2, z3, z4, z5, z6, z7, z8, z9, y0, y1, y2, y3, y4, y5, y6, y7, y8, y9⟩ := ten (jG (o := (.cells #[.slice none 0 0, .int .i64 0, .int .i8 0] 91)) HBK.out); clear y0 y1 y2 y3 y4 y5 y6 y7 y8 y9) | (go_at_call 49; refine (nT w1.heap.size w1.heap.size _ _ _ HI0.out HK0.out.1.size (by first | omega | (simp only [List.length_append, iL, List.length_nil, iU]; omega))).mono ?_; rintro e w2 ⟨rfl, hI, hK⟩; have HI1 := iC.mk hI; have HK1 := iC.mk (HK0.out.trans hK); clear hI hK z0 z1 z2 z3 z4 z5 z6 z7 z8 z9; obtain ⟨z0, z1, z2, z3, z4, z5, z6, z7, z8, z9, y0, y1, y2, y3, y4, y5, y6, y7, y8, y9⟩ := ten (iK HK1.out.1 HBK.out); clear y0 y1 y2 y3 y4 y5 y6 y7 y8 y9) | (go_at_call 50; refine (kX w1.heap.size w1.heap.size _ _ _ HI1.out HK1.out.1.size (by first | omega | (simp only [List.length_append, iL, List.length_nil, iU]; omega))).mono ?_; rintro e w3 ⟨rfl, hI, hK⟩; have HI2 := iC.mk hI; have HK2 := iC.mk (HK1.out.trans hK); clear hI hK z0 z1 z2 z3 z4 z5 z6 z7 z8 z9; obtain ⟨z0, z1, z2, z3, z4, z5, z6, z7, z8, z9, y0, y1, y2, y3, y4, y5, y6, y7, y8, y9⟩ := ten (iK HK2.out.1 HBK.out); clear y0 y1 y2 y3 y4 y5 y6 y7 y8 y9) | (go_at_call 55; refine (Tryd.Buffer_Len w1.heap.size w1.heap.size _ _ (HI2.out)).mono ?_; rintro e wl ⟨rfl, nl, rfl⟩; rw [Lib.byteCells_length, ← HLEN.out]) | (go_at_call 56; refine (Tryd.Buffer_Bytes w1.heap.size w1.heap.size _ _ (HI2.out.drewN _)).mono ?_; rintro e wb ⟨v, rfl, hv, nb, rfl⟩; have HV := iC.mk hv; clear hv))
    go_ret2
    exact ⟨_, rfl, by rw [HX.out, TL]; exact oH HV.out HBW.out.size, by have hz := HBW.out; have hy := HK2.out.1; exact iG (iI hz hy) _⟩
set_option maxHeartbeats 8000000 in
set_option maxRecDepth 20000 in
theorem QT (hs : jJ ⟨4, a1, a2, l3, l4, ⟨a5, l6⟩, a7, a8, l9⟩ = true) : Calls Tryd.prog 17 #[.agg #[.int .u8 4, .int .u32 a1, .int .u32 a2, .slice A3 l3.length c3, .slice A4 l4.length c4, .int .u32 a5, .slice A6 l6.length c6, .int .i64 a7, .int .i64 a8, .slice A9 l9.length c9]] w (oG w (encR ⟨4, a1, a2, l3, l4, ⟨a5, l6⟩, a7, a8, l9⟩)) := by
  have H3 := iC.mk h3; have H4 := iC.mk h4; have H6 := iC.mk h6; have H9 := iC.mk h9
  clear h3 h4 h6 h9
  have HS := iC.mk hs
  unfold encR
  rw [if_pos HS.out]
  have hm3 := kQ H3.out
  have hm6 := kQ H6.out
  obtain ⟨X, hX⟩ : ∃ X : List UInt8, X = recE ⟨4, a1, a2, l3, l4, ⟨a5, l6⟩, a7, a8, l9⟩ := ⟨_, rfl⟩
  rw [← hX]
  have HX := iC.mk hX
  have HLEN := iC.mk (show X.length = _ from congrArg List.length (hX.trans (RH _ _ _ _ _ _ _ _ _)))
  clear hs hX
  by_cases hbig : 60000 < X.length
  · rw [if_pos hbig]
    have hbigI : (60000 : Int) < (X.length : Int) := by omega
    clear hbig
    go_enter Tryd.func17, Tryd.ntmps17
    go_wp2_with (first | (go_at_call 19; refine (code_Sound.calls 4 a1 a2 A3 c3 l3 A4 c4 l4 a5 A6 c6 l6 a7 a8 A9 c9 l9 _ _ (Kd.C_below H3.out bel_) d3 (Kd.C_below H4.out bel_) d4 (Kd.C_below H6.out bel_) d6 (Kd.C_below H9.out bel_) d9 rfl).mono ?_; rintro e w1 ⟨rfl, hb1⟩; rw [HS.out]; have HBW := iC.mk (show Below w.heap.size w w1 from iI (iF (Below.refl _ _) _) hb1); have HBK := iC.mk (iK hb1 (iT rfl)); clear hb1; have HI0 := iC.mk (Bf.fresh w1); have HK0 := iC.mk ((Kp.refl w1.heap.size w1.heap.size w1).alloc (Nat.le_refl _) (.cells #[.slice none 0 0, .int .i64 0, .int .i8 0] 91)); obtain ⟨z0, z1, z2, z3, z4, z5, z6, z7, z8, z9, y0, y1, y2, y3, y4, y5, y6, y7, y8, y9⟩ := ten (jG (o := (.cells #[.slice none 0 0, .int .i64 0, .int .i8 0] 91)) HBK.out); clear y0 y1 y2 y3 y4 y5 y6 y7 y8 y9) | (go_at_call 49; refine (nT w1.heap.size w1.heap.size _ _ _ HI0.out HK0.out.1.size (by first | omega | (simp only [List.length_append, iL, List.length_nil, iU]; omega))).mono ?_; rintro e w2 ⟨rfl, hI, hK⟩; have HI1 := iC.mk hI; have HK1 := iC.mk (HK0.out.trans hK); clear hI hK z0 z1 z2 z3 z4 z5 z6 z7 z8 z9; obtain ⟨z0, z1, z2, z3, z4, z5, z6, z7, z8, z9, y0, y1, y2, y3, y4, y5, y6, y7, y8, y9⟩ := ten (iK HK1.out.1 HBK.out); clear y0 y1 y2 y3 y4 y5 y6 y7 y8 y9) | (go_at_call 50; refine (kX w1.heap.size w1.heap.size _ _ _ HI1.out HK1.out.1.size (by first | omega | (simp only [List.length_append, iL, List.length_nil, iU]; omega))).mono ?_; rintro e w3 ⟨rfl, hI, hK⟩; have HI2 := iC.mk hI; have HK2 := iC.mk (HK1.out.trans hK); clear hI hK z0 z1 z2 z3 z4 z5 z6 z7 z8 z9; obtain ⟨z0, z1, z2, z3, z4, z5, z6, z7, z8, z9, y0, y1, y2, y3, y4, y5, y6, y7, y8, y9⟩ := ten (iK HK2.out.1 HBK.out); clear y0 y1 y2 y3 y4 y5 y6 y7 y8 y9) | (go_at_call 55; refine (Tryd.Buffer_Len w1.heap.size w1.heap.size _ _ (HI2.out)).mono ?_; rintro e wl ⟨rfl, nl, rfl⟩; rw [Lib.byteCells_length, ← HLEN.out]))
    go_ret2
    exact ⟨_, rfl, Kd.R_nil _ _ _ _ _, by have hz := HBW.out; have hy := HK2.out.1; exact iG (iI hz hy) _⟩
  · rw [if_neg hbig]
    have hbigI : ¬ (60000 : Int) < (X.length : Int) := by omega
    clear hbig
    go_enter Tryd.func17, Tryd.ntmps17
    go_wp2_with (first | (go_at_call 19; refine (code_Sound.calls 4 a1 a2 A3 c3 l3 A4 c4 l4 a5 A6 c6 l6 a7 a8 A9 c9 l9 _ _ (Kd.C_below H3.out bel_) d3 (Kd.C_below H4.out bel_) d4 (Kd.C_below H6.out bel_) d6 (Kd.C_below H9.out bel_) d9 rfl).mono ?_; rintro e w1 ⟨rfl, hb1⟩; rw [HS.out]; have HBW := iC.mk (show Below w.heap.size w w1 from iI (iF (Below.refl _ _) _) hb1); have HBK := iC.mk (iK hb1 (iT rfl)); clear hb1; have HI0 := iC.mk (Bf.fresh w1); have HK0 := iC.mk ((Kp.refl w1.heap.size w1.heap.size w1).alloc (Nat.le_refl _) (.cells #[.slice none 0 0, .int .i64 0, .int .i8 0] 91)); obtain ⟨z0, z1, z2, z3, z4, z5, z6, z7, z8, z9, y0, y1, y2, y3, y4, y5, y6, y7, y8, y9⟩ := ten (jG (o := (.cells #[.slice none 0 0, .int .i64 0, .int .i8 0] 91)) HBK.out); clear y0 y1 y2 y3 y4 y5 y6 y7 y8 y9) | (go_at_call 49; refine (nT w1.heap.size w1.heap.size _ _ _ HI0.out HK0.out.1.size (by first | omega | (simp only [List.length_append, iL, List.length_nil, iU]; omega))).mono ?_; rintro e w2 ⟨rfl, hI, hK⟩; have HI1 := iC.mk hI; have HK1 := iC.mk (HK0.out.trans hK); clear hI hK z0 z1 z2 z3 z4 z5 z6 z7 z8 z9; obtain ⟨z0, z1, z2, z3, z4, z5, z6, z7, z8, z9, y0, y1, y2, y3, y4, y5, y6, y7, y8, y9⟩ := ten (iK HK1.out.1 HBK.out); clear y0 y1 y2 y3 y4 y5 y6 y7 y8 y9) | (go_at_call 50; refine (kX w1.heap.size w1.heap.size _ _ _ HI1.out HK1.out.1.size (by first | omega | (simp only [List.length_append, iL, List.length_nil, iU]; omega))).mono ?_; rintro e w3 ⟨rfl, hI, hK⟩; have HI2 := iC.mk hI; have HK2 := iC.mk (HK1.out.trans hK); clear hI hK z0 z1 z2 z3 z4 z5 z6 z7 z8 z9; obtain ⟨z0, z1, z2, z3, z4, z5, z6, z7, z8, z9, y0, y1, y2, y3, y4, y5, y6, y7, y8, y9⟩ := ten (iK HK2.out.1 HBK.out); clear y0 y1 y2 y3 y4 y5 y6 y7 y8 y9) | (go_at_call 55; refine (Tryd.Buffer_Len w1.heap.size w1.heap.size _ _ (HI2.out)).mono ?_; rintro e wl ⟨rfl, nl, rfl⟩; rw [Lib.byteCells_length, ← HLEN.out]) | (go_at_call 56; refine (Tryd.Buffer_Bytes w1.heap.size w1.heap.size _ _ (HI2.out.drewN _)).mono ?_; rintro e wb ⟨v, rfl, hv, nb, rfl⟩; have HV := iC.mk hv; clear hv))
    go_ret2
    exact ⟨_, rfl, by rw [HX.out, RH]; exact oH HV.out HBW.out.size, by have hz := HBW.out; have hy := HK2.out.1; exact iG (iI hz hy) _⟩
set_option maxHeartbeats 8000000 in
set_option maxRecDepth 20000 in
theorem PY (hs : jJ ⟨5, a1, a2, l3, l4, ⟨a5, l6⟩, a7, a8, l9⟩ = true) : Calls Tryd.prog 17 #[.agg #[.int .u8 5, .int .u32 a1, .int .u32 a2, .slice A3 l3.length c3, .slice A4 l4.length c4, .int .u32 a5, .slice A6 l6.length c6, .int .i64 a7, .int .i64 a8, .slice A9 l9.length c9]] w (oG w (encR ⟨5, a1, a2, l3, l4, ⟨a5, l6⟩, a7, a8, l9⟩)) := by
  have H3 := iC.mk h3; have H4 := iC.mk h4; have H6 := iC.mk h6; have H9 := iC.mk h9
  clear h3 h4 h6 h9
  have HS := iC.mk hs
  unfold encR
  rw [if_pos HS.out]
  have hm3 := kQ H3.out
  have hm6 := kQ H6.out
  obtain ⟨X, hX⟩ : ∃ X : List UInt8, X = recE ⟨5, a1, a2, l3, l4, ⟨a5, l6⟩, a7, a8, l9⟩ := ⟨_, rfl⟩
  rw [← hX]
  have HX := iC.mk hX
  have HLEN := iC.mk (show X.length = _ from congrArg List.length (hX.trans (RX _ _ _ _ _ _ _ _ _)))
  clear hs hX
  by_cases hbig : 60000 < X.length
  · rw [if_pos hbig]
    have hbigI : (60000 : Int) < (X.length : Int) := by omega
    clear hbig
    go_enter Tryd.func17, Tryd.ntmps17
    go_wp2_with (first | (go_at_call 19; refine (code_Sound.calls 5 a1 a2 A3 c3 l3 A4 c4 l4 a5 A6 c6 l6 a7 a8 A9 c9 l9 _ _ (Kd.C_below H3.out bel_) d3 (Kd.C_below H4.out bel_) d4 (Kd.C_below H6.out bel_) d6 (Kd.C_below H9.out bel_) d9 rfl).mono ?_; rintro e w1 ⟨rfl, hb1⟩; rw [HS.out]; have HBW := iC.mk (show Below w.heap.size w w1 from iI (iF (Below.refl _ _) _) hb1); have HBK := iC.mk (iK hb1 (iT rfl)); clear hb1; have HI0 := iC.mk (Bf.fresh w1); have HK0 := iC.mk ((Kp.refl w1.heap.size w1.heap.size w1).alloc (Nat.le_refl _) (.cells #[.slice none 0 0, .int .i64 0, .int .i8 0] 91)); obtain ⟨z0, z1, z2, z3, z4, z5, z6, z7, z8, z9, y0, y1, y2, y3, y4, y5, y6, y7, y8, y9⟩ := ten (jG (o := (.cells #[.slice none 0 0, .int .i64 0, .int .i8 0] 91)) HBK.out); clear y0 y1 y2 y3 y4 y5 y6 y7 y8 y9) | (go_at_call 49; refine (nT w1.heap.size w1.heap.size _ _ _ HI0.out HK0.out.1.size (by first | omega | (simp only [List.length_append, iL, List.length_nil, iU]; omega))).mono ?_; rintro e w2 ⟨rfl, hI, hK⟩; have HI1 := iC.mk hI; have HK1 := iC.mk (HK0.out.trans hK); clear hI hK z0 z1 z2 z3 z4 z5 z6 z7 z8 z9; obtain ⟨z0, z1, z2, z3, z4, z5, z6, z7, z8, z9, y0, y1, y2, y3, y4, y5, y6, y7, y8, y9⟩ := ten (iK HK1.out.1 HBK.out); clear y0 y1 y2 y3 y4 y5 y6 y7 y8 y9) | (go_at_call 50; refine (kX w1.heap.size w1.heap.size _ _ _ HI1.out HK1.out.1.size (by first | omega | (simp only [List.length_append, iL, List.length_nil, iU]; omega))).mono ?_; rintro e w3 ⟨rfl, hI, hK⟩; have HI2 := iC.mk hI; have HK2 := iC.mk (HK1.out.trans hK); clear hI hK z0 z1 z2 z3 z4 z5 z6 z7 z8 z9; obtain ⟨z0, z1, z2, z3, z4, z5, z6, z7, z8, z9, y0, y1, y2, y3, y4, y5, y6, y7, y8, y9⟩ := ten (iK HK2.out.1 HBK.out); clear y0 y1 y2 y3 y4 y5 y6 y7 y8 y9) | (go_at_call 55; refine (Tryd.Buffer_Len w1.heap.size w1.heap.size _ _ (HI2.out)).mono ?_; rintro e wl ⟨rfl, nl, rfl⟩; rw [Lib.byteCells_length, ← HLEN.out]))
    go_ret2
    exact ⟨_, rfl, Kd.R_nil _ _ _ _ _, by have hz := HBW.out; have hy := HK2.out.1; exact iG (iI hz hy) _⟩
  · rw [if_neg hbig]
    have hbigI : ¬ (60000 : Int) < (X.length : Int) := by omega
    clear hbig
    go_enter Tryd.func17, Tryd.ntmps17
    go_wp2_with (first | (go_at_call 19; refine (code_Sound.calls 5 a1 a2 A3 c3 l3 A4 c4 l4 a5 A6 c6 l6 a7 a8 A9 c9 l9 _ _ (Kd.C_below H3.out bel_) d3 (Kd.C_below H4.out bel_) d4 (Kd.C_below H6.out bel_) d6 (Kd.C_below H9.out bel_) d9 rfl).mono ?_; rintro e w1 ⟨rfl, hb1⟩; rw [HS.out]; have HBW := iC.mk (show Below w.heap.size w w1 from iI (iF (Below.refl _ _) _) hb1); have HBK := iC.mk (iK hb1 (iT rfl)); clear hb1; have HI0 := iC.mk (Bf.fresh w1); have HK0 := iC.mk ((Kp.refl w1.heap.size w1.heap.size w1).alloc (Nat.le_refl _) (.cells #[.slice none 0 0, .int .i64 0, .int .i8 0] 91)); obtain ⟨z0, z1, z2, z3, z4, z5, z6, z7, z8, z9, y0, y1, y2, y3, y4, y5, y6, y7, y8, y9⟩ := ten (jG (o := (.cells #[.slice none 0 0, .int .i64 0, .int .i8 0] 91)) HBK.out); clear y0 y1 y2 y3 y4 y5 y6 y7 y8 y9) | (go_at_call 49; refine (nT w1.heap.size w1.heap.size _ _ _ HI0.out HK0.out.1.size (by first | omega | (simp only [List.length_append, iL, List.length_nil, iU]; omega))).mono ?_; rintro e w2 ⟨rfl, hI, hK⟩; have HI1 := iC.mk hI; have HK1 := iC.mk (HK0.out.trans hK); clear hI hK z0 z1 z2 z3 z4 z5 z6 z7 z8 z9; obtain ⟨z0, z1, z2, z3, z4, z5, z6, z7, z8, z9, y0, y1, y2, y3, y4, y5, y6, y7, y8, y9⟩ := ten (iK HK1.out.1 HBK.out); clear y0 y1 y2 y3 y4 y5 y6 y7 y8 y9) | (go_at_call 50; refine (kX w1.heap.size w1.heap.size _ _ _ HI1.out HK1.out.1.size (by first | omega | (simp only [List.length_append, iL, List.length_nil, iU]; omega))).mono ?_; rintro e w3 ⟨rfl, hI, hK⟩; have HI2 := iC.mk hI; have HK2 := iC.mk (HK1.out.trans hK); clear hI hK z0 z1 z2 z3 z4 z5 z6 z7 z8 z9; obtain ⟨z0, z1, z2, z3, z4, z5, z6, z7, z8, z9, y0, y1, y2, y3, y4, y5, y6, y7, y8, y9⟩ := ten (iK HK2.out.1 HBK.out); clear y0 y1 y2 y3 y4 y5 y6 y7 y8 y9) | (go_at_call 55; refine (Tryd.Buffer_Len w1.heap.size w1.heap.size _ _ (HI2.out)).mono ?_; rintro e wl ⟨rfl, nl, rfl⟩; rw [Lib.byteCells_length, ← HLEN.out]) | (go_at_call 56; refine (Tryd.Buffer_Bytes w1.heap.size w1.heap.size _ _ (HI2.out.drewN _)).mono ?_; rintro e wb ⟨v, rfl, hv, nb, rfl⟩; have HV := iC.mk hv; clear hv))
    go_ret2
    exact ⟨_, rfl, by rw [HX.out, RX]; exact oH HV.out HBW.out.size, by have hz := HBW.out; have hy := HK2.out.1; exact iG (iI hz hy) _⟩
set_option maxHeartbeats 8000000 in
set_option maxRecDepth 20000 in
theorem QD (hs : jJ ⟨7, a1, a2, l3, l4, ⟨a5, l6⟩, a7, a8, l9⟩ = true) : Calls Tryd.prog 17 #[.agg #[.int .u8 7, .int .u32 a1, .int .u32 a2, .slice A3 l3.length c3, .slice A4 l4.length c4, .int .u32 a5, .slice A6 l6.length c6, .int .i64 a7, .int .i64 a8, .slice A9 l9.length c9]] w (oG w (encR ⟨7, a1, a2, l3, l4, ⟨a5, l6⟩, a7, a8, l9⟩)) := by
  have H3 := iC.mk h3; have H4 := iC.mk h4; have H6 := iC.mk h6; have H9 := iC.mk h9
  clear h3 h4 h6 h9
  have HS := iC.mk hs
  have q9 : (jR l9).length ≤ 25040004 := by
    have h := HS.out
    rw [O3, Bool.and_eq_true, Bool.and_eq_true, Bool.and_eq_true, Bool.and_eq_true, Bool.and_eq_true, Bool.and_eq_true] at h
    exact pX _ h.1.1.1.1.1.1 (by have := of_decide_eq_true h.1.1.1.1.1.2; omega)
  unfold encR
  rw [if_pos HS.out]
  have hm3 := kQ H3.out
  have hm6 := kQ H6.out
  obtain ⟨X, hX⟩ : ∃ X : List UInt8, X = recE ⟨7, a1, a2, l3, l4, ⟨a5, l6⟩, a7, a8, l9⟩ := ⟨_, rfl⟩
  rw [← hX]
  have HX := iC.mk hX
  have HLEN := iC.mk (show X.length = _ from congrArg List.length (hX.trans (TK _ _ _ _ _ _ _ _ _)))
  clear hs hX
  by_cases hbig : 60000 < X.length
  · rw [if_pos hbig]
    have hbigI : (60000 : Int) < (X.length : Int) := by omega
    clear hbig
    go_enter Tryd.func17, Tryd.ntmps17
    go_wp2_with (first | (go_at_call 19; refine (code_Sound.calls 7 a1 a2 A3 c3 l3 A4 c4 l4 a5 A6 c6 l6 a7 a8 A9 c9 l9 _ _ (Kd.C_below H3.out bel_) d3 (Kd.C_below H4.out bel_) d4 (Kd.C_below H6.out bel_) d6 (Kd.C_below H9.out bel_) d9 rfl).mono ?_; rintro e w1 ⟨rfl, hb1⟩; rw [HS.out]; have HBW := iC.mk (show Below w.heap.size w w1 from iI (iF (Below.refl _ _) _) hb1); have HBK := iC.mk (iK hb1 (iT rfl)); clear hb1; have HI0 := iC.mk (Bf.fresh w1); have HK0 := iC.mk ((Kp.refl w1.heap.size w1.heap.size w1).alloc (Nat.le_refl _) (.cells #[.slice none 0 0, .int .i64 0, .int .i8 0] 91)); obtain ⟨z0, z1, z2, z3, z4, z5, z6, z7, z8, z9, y0, y1, y2, y3, y4, y5, y6, y7, y8, y9⟩ := ten (jG (o := (.cells #[.slice none 0 0, .int .i64 0, .int .i8 0] 91)) HBK.out); clear y0 y1 y2 y3 y4 y5 y6 y7 y8 y9) | (go_at_call 49; refine (nT w1.heap.size w1.heap.size _ _ _ HI0.out HK0.out.1.size (by first | omega | (simp only [List.length_append, iL, List.length_nil, iU]; omega))).mono ?_; rintro e w2 ⟨rfl, hI, hK⟩; have HI1 := iC.mk hI; have HK1 := iC.mk (HK0.out.trans hK); clear hI hK z0 z1 z2 z3 z4 z5 z6 z7 z8 z9; obtain ⟨z0, z1, z2, z3, z4, z5, z6, z7, z8, z9, y0, y1, y2, y3, y4, y5, y6, y7, y8, y9⟩ := ten (iK HK1.out.1 HBK.out); clear y0 y1 y2 y3 y4 y5 y6 y7 y8 y9) | (go_at_call 50; refine (kX w1.heap.size w1.heap.size _ _ _ HI1.out HK1.out.1.size (by first | omega | (simp only [List.length_append, iL, List.length_nil, iU]; omega))).mono ?_; rintro e w3 ⟨rfl, hI, hK⟩; have HI2 := iC.mk hI; have HK2 := iC.mk (HK1.out.trans hK); clear hI hK z0 z1 z2 z3 z4 z5 z6 z7 z8 z9; obtain ⟨z0, z1, z2, z3, z4, z5, z6, z7, z8, z9, y0, y1, y2, y3, y4, y5, y6, y7, y8, y9⟩ := ten (iK HK2.out.1 HBK.out); clear y0 y1 y2 y3 y4 y5 y6 y7 y8 y9) | (go_at_call 53; refine (nD w1.heap.size w1.heap.size _ _ _ HI2.out HK2.out.1.size (by first | omega | (simp only [List.length_append, iL, List.length_nil, iU]; omega))).mono ?_; rintro e w4 ⟨rfl, hI, hK⟩; have HI3 := iC.mk hI; have HK3 := iC.mk (HK2.out.trans hK); clear hI hK z0 z1 z2 z3 z4 z5 z6 z7 z8 z9; obtain ⟨z0, z1, z2, z3, z4, z5, z6, z7, z8, z9, y0, y1, y2, y3, y4, y5, y6, y7, y8, y9⟩ := ten (iK HK3.out.1 HBK.out); clear y0 y1 y2 y3 y4 y5 y6 y7 y8 y9) | (go_at_call 53; refine (nD w1.heap.size w1.heap.size _ _ _ HI3.out HK3.out.1.size (by first | omega | (simp only [List.length_append, iL, List.length_nil, iU]; omega))).mono ?_; rintro e w5 ⟨rfl, hI, hK⟩; have HI4 := iC.mk hI; have HK4 := iC.mk (HK3.out.trans hK); clear hI hK z0 z1 z2 z3 z4 z5 z6 z7 z8 z9; obtain ⟨z0, z1, z2, z3, z4, z5, z6, z7, z8, z9, y0, y1, y2, y3, y4, y5, y6, y7, y8, y9⟩ := ten (iK HK4.out.1 HBK.out); clear y0 y1 y2 y3 y4 y5 y6 y7 y8 y9) | (go_at_call 54; refine (vP w1.heap.size _ _ _ l9 w1 _ HI4.out HK4.out.1 (Kd.C_below H9.out HBW.out) (by first | omega | (simp only [List.length_append, iL, List.length_nil, iU]; omega))).mono ?_; rintro e w6 ⟨rfl, hI, hK⟩; have HI5 := iC.mk hI; have HK5 := iC.mk (HK4.out.trans hK); clear hI hK z0 z1 z2 z3 z4 z5 z6 z7 z8 z9; obtain ⟨z0, z1, z2, z3, z4, z5, z6, z7, z8, z9, y0, y1, y2, y3, y4, y5, y6, y7, y8, y9⟩ := ten (iK HK5.out.1 HBK.out); clear y0 y1 y2 y3 y4 y5 y6 y7 y8 y9) | (go_at_call 55; refine (Tryd.Buffer_Len w1.heap.size w1.heap.size _ _ (HI5.out)).mono ?_; rintro e wl ⟨rfl, nl, rfl⟩; rw [Lib.byteCells_length, ← HLEN.out]))
    go_ret2
    exact ⟨_, rfl, Kd.R_nil _ _ _ _ _, by have hz := HBW.out; have hy := HK5.out.1; exact iG (iI hz hy) _⟩
  · rw [if_neg hbig]
    have hbigI : ¬ (60000 : Int) < (X.length : Int) := by omega
    clear hbig
    go_enter Tryd.func17, Tryd.ntmps17
    go_wp2_with (first | (go_at_call 19; refine (code_Sound.calls 7 a1 a2 A3 c3 l3 A4 c4 l4 a5 A6 c6 l6 a7 a8 A9 c9 l9 _ _ (Kd.C_below H3.out bel_) d3 (Kd.C_below H4.out bel_) d4 (Kd.C_below H6.out bel_) d6 (Kd.C_below H9.out bel_) d9 rfl).mono ?_; rintro e w1 ⟨rfl, hb1⟩; rw [HS.out]; have HBW := iC.mk (show Below w.heap.size w w1 from iI (iF (Below.refl _ _) _) hb1); have HBK := iC.mk (iK hb1 (iT rfl)); clear hb1; have HI0 := iC.mk (Bf.fresh w1); have HK0 := iC.mk ((Kp.refl w1.heap.size w1.heap.size w1).alloc (Nat.le_refl _) (.cells #[.slice none 0 0, .int .i64 0, .int .i8 0] 91)); obtain ⟨z0, z1, z2, z3, z4, z5, z6, z7, z8, z9, y0, y1, y2, y3, y4, y5, y6, y7, y8, y9⟩ := ten (jG (o := (.cells #[.slice none 0 0, .int .i64 0, .int .i8 0] 91)) HBK.out); clear y0 y1 y2 y3 y4 y5 y6 y7 y8 y9) | (go_at_call 49; refine (nT w1.heap.size w1.heap.size _ _ _ HI0.out HK0.out.1.size (by first | omega | (simp only [List.length_append, iL, List.length_nil, iU]; omega))).mono ?_; rintro e w2 ⟨rfl, hI, hK⟩; have HI1 := iC.mk hI; have HK1 := iC.mk (HK0.out.trans hK); clear hI hK z0 z1 z2 z3 z4 z5 z6 z7 z8 z9; obtain ⟨z0, z1, z2, z3, z4, z5, z6, z7, z8, z9, y0, y1, y2, y3, y4, y5, y6, y7, y8, y9⟩ := ten (iK HK1.out.1 HBK.out); clear y0 y1 y2 y3 y4 y5 y6 y7 y8 y9) | (go_at_call 50; refine (kX w1.heap.size w1.heap.size _ _ _ HI1.out HK1.out.1.size (by first | omega | (simp only [List.length_append, iL, List.length_nil, iU]; omega))).mono ?_; rintro e w3 ⟨rfl, hI, hK⟩; have HI2 := iC.mk hI; have HK2 := iC.mk (HK1.out.trans hK); clear hI hK z0 z1 z2 z3 z4 z5 z6 z7 z8 z9; obtain ⟨z0, z1, z2, z3, z4, z5, z6, z7, z8, z9, y0, y1, y2, y3, y4, y5, y6, y7, y8, y9⟩ := ten (iK HK2.out.1 HBK.out); clear y0 y1 y2 y3 y4 y5 y6 y7 y8 y9) | (go_at_call 53; refine (nD w1.heap.size w1.heap.size _ _ _ HI2.out HK2.out.1.size (by first | omega | (simp only [List.length_append, iL, List.length_nil, iU]; omega))).mono ?_; rintro e w4 ⟨rfl, hI, hK⟩; have HI3 := iC.mk hI; have HK3 := iC.mk (HK2.out.trans hK); clear hI hK z0 z1 z2 z3 z4 z5 z6 z7 z8 z9; obtain ⟨z0, z1, z2, z3, z4, z5, z6, z7, z8, z9, y0, y1, y2, y3, y4, y5, y6, y7, y8, y9⟩ := ten (iK HK3.out.1 HBK.out); clear y0 y1 y2 y3 y4 y5 y6 y7 y8 y9) | (go_at_call 53; refine (nD w1.heap.size w1.heap.size _ _ _ HI3.out HK3.out.1.size (by first | omega | (simp only [List.length_append, iL, List.length_nil, iU]; omega))).mono ?_; rintro e w5 ⟨rfl, hI, hK⟩; have HI4 := iC.mk hI; have HK4 := iC.mk (HK3.out.trans hK); clear hI hK z0 z1 z2 z3 z4 z5 z6 z7 z8 z9; obtain ⟨z0, z1, z2, z3, z4, z5, z6, z7, z8, z9, y0, y1, y2, y3, y4, y5, y6, y7, y8, y9⟩ := ten (iK HK4.out.1 HBK.out); clear y0 y1 y2 y3 y4 y5 y6 y7 y8 y9) | (go_at_call 54; refine (vP w1.heap.size _ _ _ l9 w1 _ HI4.out HK4.out.1 (Kd.C_below H9.out HBW.out) (by first | omega | (simp only [List.length_append, iL, List.length_nil, iU]; omega))).mono ?_; rintro e w6 ⟨rfl, hI, hK⟩; have HI5 := iC.mk hI; have HK5 := iC.mk (HK4.out.trans hK); clear hI hK z0 z1 z2 z3 z4 z5 z6 z7 z8 z9; obtain ⟨z0, z1, z2, z3, z4, z5, z6, z7, z8, z9, y0, y1, y2, y3, y4, y5, y6, y7, y8, y9⟩ := ten (iK HK5.out.1 HBK.out); clear y0 y1 y2 y3 y4 y5 y6 y7 y8 y9) | (go_at_call 55; refine (Tryd.Buffer_Len w1.heap.size w1.heap.size _ _ (HI5.out)).mono ?_; rintro e wl ⟨rfl, nl, rfl⟩; rw [Lib.byteCells_length, ← HLEN.out]) | (go_at_call 56; refine (Tryd.Buffer_Bytes w1.heap.size w1.heap.size _ _ (HI5.out.drewN _)).mono ?_; rintro e wb ⟨v, rfl, hv, nb, rfl⟩; have HV := iC.mk hv; clear hv))
    go_ret2
    exact ⟨_, rfl, by rw [HX.out, TK]; exact oH HV.out HBW.out.size, by have hz := HBW.out; have hy := HK5.out.1; exact iG (iI hz hy) _⟩
set_option maxHeartbeats 8000000 in
set_option maxRecDepth 20000 in
theorem PV (hs : jJ ⟨6, a1, a2, l3, l4, ⟨a5, l6⟩, a7, a8, l9⟩ = true) : Calls Tryd.prog 17 #[.agg #[.int .u8 6, .int .u32 a1, .int .u32 a2, .slice A3 l3.length c3, .slice A4 l4.length c4, .int .u32 a5, .slice A6 l6.length c6, .int .i64 a7, .int .i64 a8, .slice A9 l9.length c9]] w (oG w (encR ⟨6, a1, a2, l3, l4, ⟨a5, l6⟩, a7, a8, l9⟩)) := by
  have H3 := iC.mk h3; have H4 := iC.mk h4; have H6 := iC.mk h6; have H9 := iC.mk h9
  clear h3 h4 h6 h9
  have HS := iC.mk hs
  have q6 : l6.length ≤ 40 := by
    have h := HS.out
    rw [P7, Bool.and_eq_true, Bool.and_eq_true, Bool.and_eq_true] at h
    have := of_decide_eq_true h.1.1.2
    omega
  unfold encR
  rw [if_pos HS.out]
  have hm3 := kQ H3.out
  have hm6 := kQ H6.out
  obtain ⟨X, hX⟩ : ∃ X : List UInt8, X = recE ⟨6, a1, a2, l3, l4, ⟨a5, l6⟩, a7, a8, l9⟩ := ⟨_, rfl⟩
  rw [← hX]
  have HX := iC.mk hX
  have HLEN := iC.mk (show X.length = _ from congrArg List.length (hX.trans (RJ _ _ _ _ _ _ _ _ _)))
  clear hs hX
  by_cases hbig : 60000 < X.length
  · rw [if_pos hbig]
    have hbigI : (60000 : Int) < (X.length : Int) := by omega
    clear hbig
    go_enter Tryd.func17, Tryd.ntmps17
    go_wp2_with (first | (go_at_call 19; refine (code_Sound.calls 6 a1 a2 A3 c3 l3 A4 c4 l4 a5 A6 c6 l6 a7 a8 A9 c9 l9 _ _ (Kd.C_below H3.out bel_) d3 (Kd.C_below H4.out bel_) d4 (Kd.C_below H6.out bel_) d6 (Kd.C_below H9.out bel_) d9 rfl).mono ?_; rintro e w1 ⟨rfl, hb1⟩; rw [HS.out]; have HBW := iC.mk (show Below w.heap.size w w1 from iI (iF (Below.refl _ _) _) hb1); have HBK := iC.mk (iK hb1 (iT rfl)); clear hb1; have HI0 := iC.mk (Bf.fresh w1); have HK0 := iC.mk ((Kp.refl w1.heap.size w1.heap.size w1).alloc (Nat.le_refl _) (.cells #[.slice none 0 0, .int .i64 0, .int .i8 0] 91)); obtain ⟨z0, z1, z2, z3, z4, z5, z6, z7, z8, z9, y0, y1, y2, y3, y4, y5, y6, y7, y8, y9⟩ := ten (jG (o := (.cells #[.slice none 0 0, .int .i64 0, .int .i8 0] 91)) HBK.out); clear y0 y1 y2 y3 y4 y5 y6 y7 y8 y9) | (go_at_call 49; refine (nT w1.heap.size w1.heap.size _ _ _ HI0.out HK0.out.1.size (by first | omega | (simp only [List.length_append, iL, List.length_nil, iU]; omega))).mono ?_; rintro e w2 ⟨rfl, hI, hK⟩; have HI1 := iC.mk hI; have HK1 := iC.mk (HK0.out.trans hK); clear hI hK z0 z1 z2 z3 z4 z5 z6 z7 z8 z9; obtain ⟨z0, z1, z2, z3, z4, z5, z6, z7, z8, z9, y0, y1, y2, y3, y4, y5, y6, y7, y8, y9⟩ := ten (iK HK1.out.1 HBK.out); clear y0 y1 y2 y3 y4 y5 y6 y7 y8 y9) | (go_at_call 50; refine (kX w1.heap.size w1.heap.size _ _ _ HI1.out HK1.out.1.size (by first | omega | (simp only [List.length_append, iL, List.length_nil, iU]; omega))).mono ?_; rintro e w3 ⟨rfl, hI, hK⟩; have HI2 := iC.mk hI; have HK2 := iC.mk (HK1.out.trans hK); clear hI hK z0 z1 z2 z3 z4 z5 z6 z7 z8 z9; obtain ⟨z0, z1, z2, z3, z4, z5, z6, z7, z8, z9, y0, y1, y2, y3, y4, y5, y6, y7, y8, y9⟩ := ten (iK HK2.out.1 HBK.out); clear y0 y1 y2 y3 y4 y5 y6 y7 y8 y9) | (go_at_call 50; refine (kX w1.heap.size w1.heap.size _ _ _ HI2.out HK2.out.1.size (by first | omega | (simp only [List.length_append, iL, List.length_nil, iU]; omega))).mono ?_; rintro e w4 ⟨rfl, hI, hK⟩; have HI3 := iC.mk hI; have HK3 := iC.mk (HK2.out.trans hK); clear hI hK z0 z1 z2 z3 z4 z5 z6 z7 z8 z9; obtain ⟨z0, z1, z2, z3, z4, z5, z6, z7, z8, z9, y0, y1, y2, y3, y4, y5, y6, y7, y8, y9⟩ := ten (iK HK3.out.1 HBK.out); clear y0 y1 y2 y3 y4 y5 y6 y7 y8 y9) | (go_at_call 53; refine (oJ w1.heap.size w1.heap.size _ _ _ HI3.out HK3.out.1.size (by first | omega | (simp only [List.length_append, iL, List.length_nil, iU]; omega))).mono ?_; rintro e w5 ⟨rfl, hI, hK⟩; have HI4 := iC.mk hI; have HK4 := iC.mk (HK3.out.trans hK); clear hI hK z0 z1 z2 z3 z4 z5 z6 z7 z8 z9; obtain ⟨z0, z1, z2, z3, z4, z5, z6, z7, z8, z9, y0, y1, y2, y3, y4, y5, y6, y7, y8, y9⟩ := ten (iK HK4.out.1 HBK.out); clear y0 y1 y2 y3 y4 y5 y6 y7 y8 y9))
    clear z0 z1 z2 z3 z4 z5 z6 z7 z8 z9
    go_loopw [59] (fun i wr => ∃ k : Nat, k ≤ l6.length ∧ i = .int .i64 k ∧ iC (Bf w1.heap.size w1.heap.size ([] ++ layB 6 1 ++ layB a1 4 ++ layB a5 4 ++ layB l6.length 1 ++ (l6.take k).flatMap mX) wr) ∧ iC (Kp w1.heap.size w1.heap.size w1 wr)) (fun i _ => l6.length - (intOf i).toNat)
    case atStart => exact ⟨0, Nat.zero_le _, rfl, ⟨by rw [List.take_zero, List.flatMap_nil, List.append_nil]; exact HI4.out⟩, HK4⟩
    case round =>
      obtain ⟨k, hk, rfl, HI, HK⟩ := hrel
      clear HI4 HK4 HI3 HK3 HI2 HK2 HI1 HK1 HI0 HK0
      by_cases hlt : k < l6.length
      · obtain ⟨ad, rfl, hx0, hx1⟩ := lI (Kd.C_below H6.out (iI HBW.out HK.out.1)) (k : Int) (by omega) (by omega)
        rw [OX] at hx0 hx1
        rw [Int.toNat_natCast] at hx0 hx1
        have hts := iC.mk (jZ mX uX l6 k hlt)
        have hpl : ([] ++ layB 6 1 ++ layB a1 4 ++ layB a5 4 ++ layB l6.length 1 ++ (l6.take k).flatMap mX).length + 10 ≤ 140737488355328 := by
          simp only [List.length_append, iL, List.length_nil, rX, List.length_take]
          omega
        obtain ⟨s, hs⟩ : ∃ s, s = l6.getD k uX := ⟨_, rfl⟩
        rw [← hs] at hx0 hx1 hts
        clear hs
        obtain ⟨pre, hpre⟩ : ∃ p, p = [] ++ layB 6 1 ++ layB a1 4 ++ layB a5 4 ++ layB l6.length 1 ++ (l6.take k).flatMap mX := ⟨_, rfl⟩
        have hrest : [] ++ layB 6 1 ++ layB a1 4 ++ layB a5 4 ++ layB l6.length 1 ++ (l6.take (k + 1)).flatMap mX = pre ++ mX s := by rw [hts.out, ← List.append_assoc, hpre]
        have HREST := iC.mk hrest
        rw [← hpre] at HI hpl
        have HPL := iC.mk (show (pre ++ layB s.f0 4).length + 1 ≤ 140737488355328 from by rw [List.length_append, iL]; omega)
        have HPL4 := iC.mk (show pre.length + 4 ≤ 140737488355328 from by omega)
        clear hpre hrest hts hpl
        obtain ⟨wo, rfl⟩ : ∃ wo : World, wo = wr := ⟨_, rfl⟩
        have HBX := iC.mk (Bf.alloc HI.out (.cells #[.int .i64 s.f0, .int .i64 s.f1] 98))
        have HKX := iC.mk (HK.out.alloc HK.out.1.size (.cells #[.int .i64 s.f0, .int .i64 s.f1] 98))
        have HNE := iC.mk (show wo.heap.size ≠ w1.heap.size from by have := HI.out.lt; omega)
        go_wp2_with fail
        refine (nD _ _ pre _ _ HBX.out HKX.out.1.size HPL4.out).mono ?_
        rintro e w2 ⟨rfl, hI, hK⟩
        have HI1 := iC.mk hI
        have HK1 := iC.mk (HKX.out.trans hK)
        have hblk := hK.block (iT rfl) HNE.out (by decide)
        clear hI hK
        have hz1 : w2.cell? ⟨wo.heap.size, 1, none⟩ = some (.int .i64 s.f1) := (iE hblk 1).trans rfl
        clear hblk
        go_wp2_with fail
        refine (oJ _ _ _ _ _ HI1.out HK1.out.1.size HPL.out).mono ?_
        rintro e w3 ⟨rfl, hI, hK⟩
        have HI2 := iC.mk hI
        have HK2 := iC.mk (HK1.out.trans hK)
        clear hI hK
        go_wp2
        go_roundw
        case rel => exact ⟨k + 1, by omega, by go_num, ⟨by rw [HREST.out, mX, ← List.append_assoc]; exact HI2.out⟩, HK2⟩
        case measure => simp [intOf]; omega
      · skip
        obtain rfl : k = l6.length := by omega
        have hI' := HI.out
        rw [List.take_length] at hI'
        have HI' := iC.mk hI'
        clear hI'
        go_wp2_with (first | (go_at_call 55; refine (Tryd.Buffer_Len w1.heap.size w1.heap.size _ _ (HI'.out)).mono ?_; rintro e wl ⟨rfl, nl, rfl⟩; rw [Lib.byteCells_length, ← HLEN.out]))
        go_ret2
        exact ⟨_, rfl, Kd.R_nil _ _ _ _ _, by have hz := HBW.out; have hy := HK.out.1; exact iG (iI hz hy) _⟩
  · rw [if_neg hbig]
    have hbigI : ¬ (60000 : Int) < (X.length : Int) := by omega
    clear hbig
    go_enter Tryd.func17, Tryd.ntmps17
    go_wp2_with (first | (go_at_call 19; refine (code_Sound.calls 6 a1 a2 A3 c3 l3 A4 c4 l4 a5 A6 c6 l6 a7 a8 A9 c9 l9 _ _ (Kd.C_below H3.out bel_) d3 (Kd.C_below H4.out bel_) d4 (Kd.C_below H6.out bel_) d6 (Kd.C_below H9.out bel_) d9 rfl).mono ?_; rintro e w1 ⟨rfl, hb1⟩; rw [HS.out]; have HBW := iC.mk (show Below w.heap.size w w1 from iI (iF (Below.refl _ _) _) hb1); have HBK := iC.mk (iK hb1 (iT rfl)); clear hb1; have HI0 := iC.mk (Bf.fresh w1); have HK0 := iC.mk ((Kp.refl w1.heap.size w1.heap.size w1).alloc (Nat.le_refl _) (.cells #[.slice none 0 0, .int .i64 0, .int .i8 0] 91)); obtain ⟨z0, z1, z2, z3, z4, z5, z6, z7, z8, z9, y0, y1, y2, y3, y4, y5, y6, y7, y8, y9⟩ := ten (jG (o := (.cells #[.slice none 0 0, .int .i64 0, .int .i8 0] 91)) HBK.out); clear y0 y1 y2 y3 y4 y5 y6 y7 y8 y9) | (go_at_call 49; refine (nT w1.heap.size w1.heap.size _ _ _ HI0.out HK0.out.1.size (by first | omega | (simp only [List.length_append, iL, List.length_nil, iU]; omega))).mono ?_; rintro e w2 ⟨rfl, hI, hK⟩; have HI1 := iC.mk hI; have HK1 := iC.mk (HK0.out.trans hK); clear hI hK z0 z1 z2 z3 z4 z5 z6 z7 z8 z9; obtain ⟨z0, z1, z2, z3, z4, z5, z6, z7, z8, z9, y0, y1, y2, y3, y4, y5, y6, y7, y8, y9⟩ := ten (iK HK1.out.1 HBK.out); clear y0 y1 y2 y3 y4 y5 y6 y7 y8 y9) | (go_at_call 50; refine (kX w1.heap.size w1.heap.size _ _ _ HI1.out HK1.out.1.size (by first | omega | (simp only [List.length_append, iL, List.length_nil, iU]; omega))).mono ?_; rintro e w3 ⟨rfl, hI, hK⟩; have HI2 := iC.mk hI; have HK2 := iC.mk (HK1.out.trans hK); clear hI hK z0 z1 z2 z3 z4 z5 z6 z7 z8 z9; obtain ⟨z0, z1, z2, z3, z4, z5, z6, z7, z8, z9, y0, y1, y2, y3, y4, y5, y6, y7, y8, y9⟩ := ten (iK HK2.out.1 HBK.out); clear y0 y1 y2 y3 y4 y5 y6 y7 y8 y9) | (go_at_call 50; refine (kX w1.heap.size w1.heap.size _ _ _ HI2.out HK2.out.1.size (by first | omega | (simp only [List.length_append, iL, List.length_nil, iU]; omega))).mono ?_; rintro e w4 ⟨rfl, hI, hK⟩; have HI3 := iC.mk hI; have HK3 := iC.mk (HK2.out.trans hK); clear hI hK z0 z1 z2 z3 z4 z5 z6 z7 z8 z9; obtain ⟨z0, z1, z2, z3, z4, z5, z6, z7, z8, z9, y0, y1, y2, y3, y4, y5, y6, y7, y8, y9⟩ := ten (iK HK3.out.1 HBK.out); clear y0 y1 y2 y3 y4 y5 y6 y7 y8 y9) | (go_at_call 53; refine (oJ w1.heap.size w1.heap.size _ _ _ HI3.out HK3.out.1.size (by first | omega | (simp only [List.length_append, iL, List.length_nil, iU]; omega))).mono ?_; rintro e w5 ⟨rfl, hI, hK⟩; have HI4 := iC.mk hI; have HK4 := iC.mk (HK3.out.trans hK); clear hI hK z0 z1 z2 z3 z4 z5 z6 z7 z8 z9; obtain ⟨z0, z1, z2, z3, z4, z5, z6, z7, z8, z9, y0, y1, y2, y3, y4, y5, y6, y7, y8, y9⟩ := ten (iK HK4.out.1 HBK.out); clear y0 y1 y2 y3 y4 y5 y6 y7 y8 y9))
    clear z0 z1 z2 z3 z4 z5 z6 z7 z8 z9
    go_loopw [59] (fun i wr => ∃ k : Nat, k ≤ l6.length ∧ i = .int .i64 k ∧ iC (Bf w1.heap.size w1.heap.size ([] ++ layB 6 1 ++ layB a1 4 ++ layB a5 4 ++ layB l6.length 1 ++ (l6.take k).flatMap mX) wr) ∧ iC (Kp w1.heap.size w1.heap.size w1 wr)) (fun i _ => l6.length - (intOf i).toNat)
    case atStart => exact ⟨0, Nat.zero_le _, rfl, ⟨by rw [List.take_zero, List.flatMap_nil, List.append_nil]; exact HI4.out⟩, HK4⟩
    case round =>
      obtain ⟨k, hk, rfl, HI, HK⟩ := hrel
      clear HI4 HK4 HI3 HK3 HI2 HK2 HI1 HK1 HI0 HK0
      by_cases hlt : k < l6.length
      · obtain ⟨ad, rfl, hx0, hx1⟩ := lI (Kd.C_below H6.out (iI HBW.out HK.out.1)) (k : Int) (by omega) (by omega)
        rw [OX] at hx0 hx1
        rw [Int.toNat_natCast] at hx0 hx1
        have hts := iC.mk (jZ mX uX l6 k hlt)
        have hpl : ([] ++ layB 6 1 ++ layB a1 4 ++ layB a5 4 ++ layB l6.length 1 ++ (l6.take k).flatMap mX).length + 10 ≤ 140737488355328 := by
          simp only [List.length_append, iL, List.length_nil, rX, List.length_take]
          omega
        obtain ⟨s, hs⟩ : ∃ s, s = l6.getD k uX := ⟨_, rfl⟩
        rw [← hs] at hx0 hx1 hts
        clear hs
        obtain ⟨pre, hpre⟩ : ∃ p, p = [] ++ layB 6 1 ++ layB a1 4 ++ layB a5 4 ++ layB l6.length 1 ++ (l6.take k).flatMap mX := ⟨_, rfl⟩
        have hrest : [] ++ layB 6 1 ++ layB a1 4 ++ layB a5 4 ++ layB l6.length 1 ++ (l6.take (k + 1)).flatMap mX = pre ++ mX s := by rw [hts.out, ← List.append_assoc, hpre]
        have HREST := iC.mk hrest
        rw [← hpre] at HI hpl
        have HPL := iC.mk (show (pre ++ layB s.f0 4).length + 1 ≤ 140737488355328 from by rw [List.length_append, iL]; omega)
        have HPL4 := iC.mk (show pre.length + 4 ≤ 140737488355328 from by omega)
        clear hpre hrest hts hpl
        obtain ⟨wo, rfl⟩ : ∃ wo : World, wo = wr := ⟨_, rfl⟩
        have HBX := iC.mk (Bf.alloc HI.out (.cells #[.int .i64 s.f0, .int .i64 s.f1] 98))
        have HKX := iC.mk (HK.out.alloc HK.out.1.size (.cells #[.int .i64 s.f0, .int .i64 s.f1] 98))
        have HNE := iC.mk (show wo.heap.size ≠ w1.heap.size from by have := HI.out.lt; omega)
        go_wp2_with fail
        refine (nD _ _ pre _ _ HBX.out HKX.out.1.size HPL4.out).mono ?_
        rintro e w2 ⟨rfl, hI, hK⟩
        have HI1 := iC.mk hI
        have HK1 := iC.mk (HKX.out.trans hK)
        have hblk := hK.block (iT rfl) HNE.out (by decide)
        clear hI hK
        have hz1 : w2.cell? ⟨wo.heap.size, 1, none⟩ = some (.int .i64 s.f1) := (iE hblk 1).trans rfl
        clear hblk
        go_wp2_with fail
        refine (oJ _ _ _ _ _ HI1.out HK1.out.1.size HPL.out).mono ?_
        rintro e w3 ⟨rfl, hI, hK⟩
        have HI2 := iC.mk hI
        have HK2 := iC.mk (HK1.out.trans hK)
        clear hI hK
        go_wp2
        go_roundw
        case rel => exact ⟨k + 1, by omega, by go_num, ⟨by rw [HREST.out, mX, ← List.append_assoc]; exact HI2.out⟩, HK2⟩
        case measure => simp [intOf]; omega
      · skip
        obtain rfl : k = l6.length := by omega
        have hI' := HI.out
        rw [List.take_length] at hI'
        have HI' := iC.mk hI'
        clear hI'
        go_wp2_with (first | (go_at_call 55; refine (Tryd.Buffer_Len w1.heap.size w1.heap.size _ _ (HI'.out)).mono ?_; rintro e wl ⟨rfl, nl, rfl⟩; rw [Lib.byteCells_length, ← HLEN.out]) | (go_at_call 56; refine (Tryd.Buffer_Bytes w1.heap.size w1.heap.size _ _ (HI'.out.drewN _)).mono ?_; rintro e wb ⟨v, rfl, hv, nb, rfl⟩; have HV := iC.mk hv; clear hv))
        go_ret2
        exact ⟨_, rfl, by rw [HX.out, RJ]; exact oH HV.out HBW.out.size, by have hz := HBW.out; have hy := HK.out.1; exact iG (iI hz hy) _⟩
set_option maxHeartbeats 2000000 in
theorem PQ (hs : jJ ⟨a0, a1, a2, l3, l4, ⟨a5, l6⟩, a7, a8, l9⟩ = false) : Calls Tryd.prog 17 #[.agg #[.int .u8 a0, .int .u32 a1, .int .u32 a2, .slice A3 l3.length c3, .slice A4 l4.length c4, .int .u32 a5, .slice A6 l6.length c6, .int .i64 a7, .int .i64 a8, .slice A9 l9.length c9]] w (oG w (encR ⟨a0, a1, a2, l3, l4, ⟨a5, l6⟩, a7, a8, l9⟩)) := by
  have H3 := iC.mk h3; have H4 := iC.mk h4; have H6 := iC.mk h6; have H9 := iC.mk h9
  clear h3 h4 h6 h9
  unfold encR
  rw [if_neg (by rw [hs]; exact Bool.false_ne_true)]
  have HS := iC.mk hs
  clear hs
  go_enter Tryd.func17, Tryd.ntmps17
  go_wp2_with (first | (go_at_call 19; refine (code_Sound.calls a0 a1 a2 A3 c3 l3 A4 c4 l4 a5 A6 c6 l6 a7 a8 A9 c9 l9 _ _ (Kd.C_below H3.out bel_) d3 (Kd.C_below H4.out bel_) d4 (Kd.C_below H6.out bel_) d6 (Kd.C_below H9.out bel_) d9 rfl).mono ?_; rintro e w1 ⟨rfl, hb1⟩; rw [HS.out]))
  go_ret2
  exact ⟨_, rfl, Kd.R_nil _ _ _ _ _, iI (iF (Below.refl _ _) _) hb1⟩
end
theorem code_Encode.calls (a0_0 : Int) (a0_1 : Int) (a0_2 : Int) (A0_3 : Option Addr) (c0_3 : Nat) (l0_3 : List Int) (A0_4 : Option Addr) (c0_4 : Nat) (l0_4 : List jO) (a0_5 : Int) (A0_6 : Option Addr) (c0_6 : Nat) (l0_6 : List jV) (a0_7 : Int) (a0_8 : Int) (A0_9 : Option Addr) (c0_9 : Nat) (l0_9 : List jE) (r1 : List Int) (r2 : Int) (w : World) (hr0_3 : Kd.C (Kd.int .i64) w A0_3 l0_3.length l0_3) (hc0_3 : l0_3.length ≤ c0_3) (hr0_4 : Kd.C k139 w A0_4 l0_4.length l0_4) (hc0_4 : l0_4.length ≤ c0_4) (hr0_6 : Kd.C k98 w A0_6 l0_6.length l0_6) (hc0_6 : l0_6.length ≤ c0_6) (hr0_9 : Kd.C k86 w A0_9 l0_9.length l0_9) (hc0_9 : l0_9.length ≤ c0_9) (h : code_Encode.f a0_0 a0_1 a0_2 l0_3 l0_4 a0_5 l0_6 a0_7 a0_8 l0_9 = some (r1, r2)) :
    Calls Tryd.prog 17 #[.agg #[.int .u8 a0_0, .int .u32 a0_1, .int .u32 a0_2, .slice A0_3 l0_3.length c0_3, .slice A0_4 l0_4.length c0_4, .int .u32 a0_5, .slice A0_6 l0_6.length c0_6, .int .i64 a0_7, .int .i64 a0_8, .slice A0_9 l0_9.length c0_9]] w fun e w' => ∃ v0_ : Value, e = .returned (.tuple #[v0_, .int .u16 r2]) ∧ Kd.R (Kd.int .u8) 5 w' w.heap.size (fun _ => True) v0_ r1 ∧ Below w.heap.size w w' := by
  have e := Option.some.inj h
  clear h
  have main : Calls Tryd.prog 17 #[.agg #[.int .u8 a0_0, .int .u32 a0_1, .int .u32 a0_2, .slice A0_3 l0_3.length c0_3, .slice A0_4 l0_4.length c0_4, .int .u32 a0_5, .slice A0_6 l0_6.length c0_6, .int .i64 a0_7, .int .i64 a0_8, .slice A0_9 l0_9.length c0_9]] w (oG w (encR ⟨a0_0, a0_1, a0_2, l0_3, l0_4, ⟨a0_5, l0_6⟩, a0_7, a0_8, l0_9⟩)) := by
    clear e
    cases hs : jJ ⟨a0_0, a0_1, a0_2, l0_3, l0_4, ⟨a0_5, l0_6⟩, a0_7, a0_8, l0_9⟩ with
    | false => exact PQ a0_0 a0_1 a0_2 A0_3 c0_3 l0_3 A0_4 c0_4 l0_4 a0_5 A0_6 c0_6 l0_6 a0_7 a0_8 A0_9 c0_9 l0_9 w hr0_3 hc0_3 hr0_4 hc0_4 hr0_6 hc0_6 hr0_9 hc0_9 hs
    | true =>
      by_cases h0 : a0_0 < 1 ∨ 7 < a0_0
      · rw [OC _ _ _ _ _ _ _ _ _ _ h0] at hs
        cases hs
      have h7 : a0_0 = 1 ∨ a0_0 = 2 ∨ a0_0 = 3 ∨ a0_0 = 4 ∨ a0_0 = 5 ∨ a0_0 = 6 ∨ a0_0 = 7 := by omega
      rcases h7 with rfl | rfl | rfl | rfl | rfl | rfl | rfl
      · exact PU a0_1 a0_2 A0_3 c0_3 l0_3 A0_4 c0_4 l0_4 a0_5 A0_6 c0_6 l0_6 a0_7 a0_8 A0_9 c0_9 l0_9 w hr0_3 hc0_3 hr0_4 hc0_4 hr0_6 hc0_6 hr0_9 hc0_9 hs
      · exact QA a0_1 a0_2 A0_3 c0_3 l0_3 A0_4 c0_4 l0_4 a0_5 A0_6 c0_6 l0_6 a0_7 a0_8 A0_9 c0_9 l0_9 w hr0_3 hc0_3 hr0_4 hc0_4 hr0_6 hc0_6 hr0_9 hc0_9 hs
      · exact QS a0_1 a0_2 A0_3 c0_3 l0_3 A0_4 c0_4 l0_4 a0_5 A0_6 c0_6 l0_6 a0_7 a0_8 A0_9 c0_9 l0_9 w hr0_3 hc0_3 hr0_4 hc0_4 hr0_6 hc0_6 hr0_9 hc0_9 hs
      · exact QT a0_1 a0_2 A0_3 c0_3 l0_3 A0_4 c0_4 l0_4 a0_5 A0_6 c0_6 l0_6 a0_7 a0_8 A0_9 c0_9 l0_9 w hr0_3 hc0_3 hr0_4 hc0_4 hr0_6 hc0_6 hr0_9 hc0_9 hs
      · exact PY a0_1 a0_2 A0_3 c0_3 l0_3 A0_4 c0_4 l0_4 a0_5 A0_6 c0_6 l0_6 a0_7 a0_8 A0_9 c0_9 l0_9 w hr0_3 hc0_3 hr0_4 hc0_4 hr0_6 hc0_6 hr0_9 hc0_9 hs
      · exact PV a0_1 a0_2 A0_3 c0_3 l0_3 A0_4 c0_4 l0_4 a0_5 A0_6 c0_6 l0_6 a0_7 a0_8 A0_9 c0_9 l0_9 w hr0_3 hc0_3 hr0_4 hc0_4 hr0_6 hc0_6 hr0_9 hc0_9 hs
      · exact QD a0_1 a0_2 A0_3 c0_3 l0_3 A0_4 c0_4 l0_4 a0_5 A0_6 c0_6 l0_6 a0_7 a0_8 A0_9 c0_9 l0_9 w hr0_3 hc0_3 hr0_4 hc0_4 hr0_6 hc0_6 hr0_9 hc0_9 hs
  rw [e] at main
  exact main
end Go.Proofs.YtgfkgppomaapiaaDoor.K
end

section
namespace Go.Proofs.YtgfkgppomaapiaaDoor.K
open Go.RowKit Go.Proofs.YtgfkgppomaapiaaDoorW.PrintWords Go.Proofs.YtgfkgppomaapiaaDoorW.PrintLast Go.Proofs.YtgfkgppomaapiaaDoorW.PrintMore
def stratumref07_Put.l0 : Nat → List Int → Int → Int → Option (List Int)
  | 0, _, _, _ => none
  | k + 1, x0, x1, x7 => if x7 ≥ 0 then (if 0 ≤ (IntKind.u64.wrap (8 * (IntKind.u64.wrap (x7)))) then (if x0.length < 140737488355328 then (stratumref07_Put.l0 k (x0 ++ [(shr .u64 x1 (IntKind.u64.wrap (8 * (IntKind.u64.wrap (x7))))) % 256]) x1 (wrap64 (x7 - 1))) else (none)) else (none)) else (some x0)
def stratumref07_Put.f (k : Nat) (l0 : List Int) (a1 : Int) (a2 : Int) : Option (List Int) := stratumref07_Put.l0 k l0 a1 (wrap64 (a2 - 1))
set_option maxHeartbeats 8000000 in
set_option maxRecDepth 100000 in
theorem stratumref07_Put.calls (k : Nat) (P0_ : Nat → Prop) (u9000_ : Value) (l0 : List Int) (a1 : Int) (a2 : Int) (r : List Int) (w0 w : World) (hB : Below w0.heap.size w0 w) (ho0 : Kd.R (Kd.int .u8) 5 w w0.heap.size P0_ u9000_ l0) (h : stratumref07_Put.f k l0 a1 a2 = some r) :
    Calls Tryd.prog 57 #[u9000_, .int .u64 a1, .int .i64 a2] w fun e w' => ∃ v0_ : Value, e = .returned (v0_) ∧ Kd.R (Kd.int .u8) 5 w' w0.heap.size (fun k_ => (P0_ k_ ∨ w.heap.size ≤ k_)) v0_ r ∧ Below w0.heap.size w0 w' ∧ Kept w w' (fun k_ => P0_ k_) := by
  have HO0 := iC.mk (show Kd.R (Kd.int .u8) 5 w w0.heap.size (fun k_ => (P0_ k_ ∨ w.heap.size ≤ k_)) u9000_ l0 from Kd.R_mono ho0 (fun k_ hk => (.inl hk)))
  have HK := iC.mk (Kept.refl w (fun k_ => P0_ k_))
  have HW0 := iC.mk hB.size
  have HB := iC.mk hB
  clear hB
  have H : (stratumref07_Put.l0 k l0 a1 (wrap64 (a2 - 1))) = some r := h
  clear h
  have H' := iC.mk H
  clear H
  go_enter Tryd.func57, Tryd.ntmps57
  go_wp2
  go_loopg [0, 7] k (fun kq v0 v7 w' => ∃ (x0_1 : List Int) (x7_1 : Int), v7 = .int .i64 x7_1 ∧ iC (stratumref07_Put.l0 kq x0_1 a1 x7_1 = some r) ∧ iC (kq ≤ k) ∧ iC (Kd.R (Kd.int .u8) 5 w' w0.heap.size (fun k_ => (P0_ k_ ∨ w.heap.size ≤ k_)) v0 x0_1) ∧ iC (Kept w w' (fun k_ => P0_ k_)) ∧ iC (Below w0.heap.size w0 w'))
  case atStart => exact ⟨(l0), (wrap64 (a2 - 1)), (by first | rfl | (simp; done) | (simp [*]; done)), H', ⟨Nat.le_refl _⟩, ⟨by (with_reducible repeat (first | apply Kd.R_alloc | apply Kd.R_drewN | apply Kd.R_drew)); exact HO0.out⟩, ⟨by repeat (first | (with_reducible first | exact HK.out | apply Kept.alloc | apply Kept.drewN | apply Kept.drew) | exact HK.out)⟩, ⟨hb_⟩⟩
  case round =>
    clear H'
    try clear p2
    obtain ⟨x0_1, x7_1, rfl, HA, HK1, HO_0, HK, HB⟩ := hrel
    cases gk with
    | zero => exact absurd HA.out (by simp [stratumref07_Put.l0])
    | succ k1 =>
      have H := HA.out
      clear HA
      simp only [stratumref07_Put.l0] at H
      by_cases c4 : x7_1 ≥ 0
      · rw [if_pos c4] at H
        have c4b0 : decide (0 ≤ x7_1) = true := decide_eq_true c4
        clear c4
        obtain ⟨ji5, hji5⟩ : ∃ j_ : Int, (IntKind.u64.wrap (8 * (IntKind.u64.wrap (x7_1)))) = j_ := ⟨_, rfl⟩
        replace H : (if 0 ≤ (ji5) then (if x0_1.length < 140737488355328 then (stratumref07_Put.l0 k1 (x0_1 ++ [(shr .u64 a1 (ji5)) % 256]) a1 (wrap64 (x7_1 - 1))) else (none)) else (none)) = some r := by first | (rw [hji5] at H; exact H) | (simp only [hji5] at H ⊢; exact H)
        by_cases c6 : 0 ≤ (ji5)
        · rw [if_pos c6] at H
          have c6b0 := eq_true c6
          have c6b1 : decide (0 ≤ (ji5)) = true := decide_eq_true c6
          clear c6
          obtain ⟨ji7, hji7⟩ : ∃ j_ : Int, (shr .u64 a1 (ji5)) = j_ := ⟨_, rfl⟩
          replace H : (if x0_1.length < 140737488355328 then (stratumref07_Put.l0 k1 (x0_1 ++ [(ji7) % 256]) a1 (wrap64 (x7_1 - 1))) else (none)) = some r := by first | (rw [hji7] at H; exact H) | (simp only [hji7] at H ⊢; exact H)
          have hji7_ : (a1 / 2 ^ min (ji5).toNat 64) = ji7 := hji7
          have hji7z : (ji5) ≤ 64 → (a1 / 2 ^ (ji5).toNat) = ji7 := OZ hji7
          by_cases c8 : x0_1.length < 140737488355328
          · rw [if_pos c8] at H
            have LMc8 := iC.mk c8
            clear c8
            obtain ⟨y146, hy146⟩ : ∃ y_ : List Int, y_ = (x0_1 ++ [(ji7) % 256]) := ⟨_, rfl⟩
            replace H : (stratumref07_Put.l0 k1 y146 a1 (wrap64 (x7_1 - 1))) = some r := by first | (rw [hy146]; with_reducible exact H) | (have H2_ := (Option.bind_some _ _).symm.trans H; rw [hy146]; with_reducible exact H2_) | (have H2_ := (Option.bind_some _ _).symm.trans H; with_reducible exact H2_) | with_reducible exact H | (rw [hy146]; exact H) | exact H
            have Ny146 := iC.mk hy146
            clear hy146
            have H' := iC.mk H
            clear H
            go_wp2_with (first | ((with_reducible refine zZ (b := .append) (xs := #[.tmp 14, .tmp 21]) rfl ?_); at_builtin; refine Kd.R_append (Kd.int .u8) (w0 := w0) w0.heap.size rfl (.tmp 14) (.tmp 21) 33 5 (.int .u8 0) 1 rfl Tryd.underlying33 info5 rfl (by decide) (by omega) u0 x0_1 ((ji7) % 256) [.int .u8 ((ji7) % 256)] (fun k_ => (P0_ k_ ∨ w.heap.size ≤ k_)) (fun _ => False) rfl rfl ?aP (fun _ hk => hk.elim) ?aF ?aO ?aB ?aS ?aL ?_; (case aP => exact rfl); (case aB => exact hb_); (case aF => exact (fun k_ hk => (.inr (Nat.le_trans (by first | exact HK.out.1 | exact (show Kept w _ (fun k_ => P0_ k_) from by repeat (first | (with_reducible first | exact HK.out | apply Kept.alloc | apply Kept.drewN | apply Kept.drew) | exact HK.out)).1) hk)))); (case aO => exact (by (with_reducible repeat (first | apply Kd.R_alloc | apply Kd.R_drewN | apply Kd.R_drew)); exact HO_0.out)); (case aS => exact (iQ hb_)); (case aL => have := LMc8.out; omega); intro v147 w9 ho hb hg hat; rw [← Ny146.out] at ho; have n0_ := iC.mk (hb); have n1_ := iC.mk (Kept.of_grown (S := (fun k_ => P0_ k_)) hg (by repeat (first | (with_reducible first | exact HK.out | apply Kept.alloc | apply Kept.drewN | apply Kept.drew) | exact HK.out)) (fun k_ e_ => (HO_0.out.1 k_ e_))); have n2_ := iC.mk (ho); clear HB; clear HK; clear HO_0; have HB := n0_; have HK := n1_; have HO148 := n2_; clear n0_ n1_ n2_; clear ho hb hg hat))
            go_roundg k1
            case measure => have := HK1.out; omega
            case rel => exact ⟨(y146), (wrap64 (x7_1 - 1)), (by first | rfl | (simp; done) | (simp [*]; done)), H', ⟨by have := HK1.out; omega⟩, ⟨by (with_reducible repeat (first | apply Kd.R_alloc | apply Kd.R_drewN | apply Kd.R_drew)); exact HO148.out⟩, ⟨by repeat (first | (with_reducible first | exact HK.out | apply Kept.alloc | apply Kept.drewN | apply Kept.drew) | exact HK.out)⟩, ⟨hb_⟩⟩
          · rw [if_neg c8] at H
            exact absurd H (by simp)
        · rw [if_neg c6] at H
          exact absurd H (by simp)
      · rw [if_neg c4] at H
        have c4b0 : decide (0 ≤ x7_1) = false := decide_eq_false c4
        clear c4
        obtain rfl := Option.some.inj H
        go_wp2
        go_ret
        exact ⟨_, by first | rfl | (simp [iM, iO] <;> rfl) | (simp [*, iM, iO] <;> rfl), by (with_reducible repeat (first | apply Kd.R_alloc | apply Kd.R_drewN | apply Kd.R_drew)); exact HO_0.out, hb_, by repeat (first | (with_reducible first | exact HK.out | apply Kept.alloc | apply Kept.drewN | apply Kept.drew) | exact HK.out)⟩
end Go.Proofs.YtgfkgppomaapiaaDoor.K
end

section
namespace Go.Proofs.YtgfkgppomaapiaaDoor.K
open Go.RowKit Go.Proofs.YtgfkgppomaapiaaDoorW.PrintWords Go.Proofs.YtgfkgppomaapiaaDoorW.PrintLast Go.Proofs.YtgfkgppomaapiaaDoorW.PrintMore
def stratumref07_Nodes.l0 : Nat → List Int → List Int → Int → Option (List Int)
  | 0, _, _, _ => none
  | k + 1, x0, x1, x5 => if x5 < (x1.length : Int) then (if 0 ≤ x5 then ((stratumref07_Put.f k x0 (IntKind.u64.wrap (rd x1 x5)) 1).bind fun t153 => (stratumref07_Nodes.l0 k t153 x1 (wrap64 (x5 + 1)))) else (none)) else (some x0)
def stratumref07_Nodes.f (k : Nat) (l0 : List Int) (l1 : List Int) : Option (List Int) := (stratumref07_Put.f k l0 (IntKind.u64.wrap ((l1.length : Int))) 1).bind fun t149 => (stratumref07_Nodes.l0 k t149 l1 0)
set_option maxHeartbeats 8000000 in
set_option maxRecDepth 100000 in
theorem stratumref07_Nodes.calls (k : Nat) (P0_ : Nat → Prop) (u9000_ : Value) (l0 : List Int) (A1 : Option Addr) (c1 : Nat) (l1 : List Int) (r : List Int) (w0 w : World) (hB : Below w0.heap.size w0 w) (ho0 : Kd.R (Kd.int .u8) 5 w w0.heap.size P0_ u9000_ l0) (hr1 : ∀ W_, Kept w W_ (fun k_ => P0_ k_) → Kd.C (Kd.int .i64) W_ A1 l1.length l1) (hc1 : l1.length ≤ c1) (h : stratumref07_Nodes.f k l0 l1 = some r) :
    Calls Tryd.prog 58 #[u9000_, .slice A1 l1.length c1] w fun e w' => ∃ v0_ : Value, e = .returned (v0_) ∧ Kd.R (Kd.int .u8) 5 w' w0.heap.size (fun k_ => (P0_ k_ ∨ w.heap.size ≤ k_)) v0_ r ∧ Below w0.heap.size w0 w' ∧ Kept w w' (fun k_ => P0_ k_) := by
  have HO0 := iC.mk (show Kd.R (Kd.int .u8) 5 w w0.heap.size (fun k_ => (P0_ k_ ∨ w.heap.size ≤ k_)) u9000_ l0 from Kd.R_mono ho0 (fun k_ hk => (.inl hk)))
  have HR1 := iC.mk hr1
  have HC1 := iC.mk hc1
  clear hr1 hc1
  have HK := iC.mk (Kept.refl w (fun k_ => P0_ k_))
  have HW0 := iC.mk hB.size
  have HB := iC.mk hB
  clear hB
  have H : ((stratumref07_Put.f k l0 (IntKind.u64.wrap ((l1.length : Int))) 1).bind fun t149 => (stratumref07_Nodes.l0 k t149 l1 0)) = some r := h
  clear h
  replace H := Option.bind_eq_some_iff.mp H
  obtain ⟨t149, A30, H⟩ := H
  replace H : (stratumref07_Nodes.l0 k t149 l1 0) = some r := H
  have A3 := iC.mk A30
  clear A30
  have H' := iC.mk H
  clear H
  obtain ⟨Ao4, co4, eo4⟩ := Kd.R_slice HO0.out
  subst eo4
  go_enter Tryd.func58, Tryd.ntmps58
  go_wp2_with (first | ((with_reducible refine jK (f := 57) rfl ?_); refine lV (some 10) rfl rfl Tryd.func57 (by kernel_rfl) rfl #[.slice Ao4 l0.length co4, .int .u64 (IntKind.u64.wrap ((l1.length : Int))), .int .i64 1] rfl (by (try simp only [List.map_toArray, List.map_cons, List.map_nil]); first | done | rfl | (simp only [List.length_drop, List.length_take]; rfl)) ?_; (with_reducible refine (stratumref07_Put.calls k (fun k_ => some k_ = (.slice Ao4 l0.length co4 : Value).ownBlock) (.slice Ao4 l0.length co4) l0 (IntKind.u64.wrap ((l1.length : Int))) 1 t149 w0 _ ?side1 ?side2 A3.out).mono ?_); (case side1 => repeat (first | (with_reducible first | exact HB.out | apply iF | apply iG | apply iH) | exact HB.out)); (case side2 => exact Kd.R_tight rfl HO0.out); rintro e w5 ⟨v150, rfl, ho0, hb, hkp⟩; refine ⟨_, rfl, ?_⟩; have n0_ := iC.mk (Kd.R_mono (ok' := fun k_ => (P0_ k_ ∨ w.heap.size ≤ k_)) ho0 (fun k_ hk_ => Or.elim hk_ (fun hs_ => (HO0.out.1 k_ (hs_).symm)) (fun hn_ => (.inr (Nat.le_trans (by first | exact HK.out.1 | exact (show Kept w _ (fun k_ => P0_ k_) from by repeat (first | (with_reducible first | exact HK.out | apply Kept.alloc | apply Kept.drewN | apply Kept.drew) | exact HK.out)).1) hn_))))); have n1_ := iC.mk (Kept.then_ (S := (fun k_ => P0_ k_)) (by repeat (first | (with_reducible first | exact HK.out | apply Kept.alloc | apply Kept.drewN | apply Kept.drew) | exact HK.out)) hkp (fun k_ hs_ => (fun e_ => (HO0.out.1 k_ e_.symm)) hs_)); have n2_ := iC.mk (hb); clear HK; clear HB; clear HO0; have HO151 := n0_; have HK := n1_; have HB := n2_; clear n0_ n1_ n2_; (try clear hb); (try clear hkp); (try clear ho0)))
  go_loopg [0, 5] k (fun kq v0 v5 w' => ∃ (x0_1 : List Int) (x5_1 : Int), v5 = .int .i64 x5_1 ∧ iC (stratumref07_Nodes.l0 kq x0_1 l1 x5_1 = some r) ∧ iC (kq ≤ k) ∧ iC (Kd.R (Kd.int .u8) 5 w' w0.heap.size (fun k_ => (P0_ k_ ∨ w.heap.size ≤ k_)) v0 x0_1) ∧ iC (Kept w w' (fun k_ => P0_ k_)) ∧ iC (Below w0.heap.size w0 w'))
  case atStart => exact ⟨(t149), (0), (by first | rfl | (simp; done) | (simp [*]; done)), H', ⟨Nat.le_refl _⟩, ⟨by (with_reducible repeat (first | apply Kd.R_alloc | apply Kd.R_drewN | apply Kd.R_drew)); exact HO151.out⟩, ⟨by repeat (first | (with_reducible first | exact HK.out | apply Kept.alloc | apply Kept.drewN | apply Kept.drew) | exact HK.out)⟩, ⟨hb_⟩⟩
  case round =>
    clear H'
    try clear c1
    try clear p2
    try clear c5
    obtain ⟨x0_1, x5_1, rfl, HA, HK1, HO_0, HK, HB⟩ := hrel
    cases gk with
    | zero => exact absurd HA.out (by simp [stratumref07_Nodes.l0])
    | succ k1 =>
      have H := HA.out
      clear HA
      simp only [stratumref07_Nodes.l0] at H
      by_cases c6 : x5_1 < (l1.length : Int)
      · rw [if_pos c6] at H
        have c6b0 : decide (x5_1 < (l1.length : Int)) = true := decide_eq_true c6
        clear c6
        by_cases c7 : 0 ≤ x5_1
        · rw [if_pos c7] at H
          have c7b0 : decide (0 ≤ x5_1) = true := decide_eq_true c7
          clear c7
          replace H := Option.bind_eq_some_iff.mp H
          obtain ⟨t153, A80, H⟩ := H
          replace H : (stratumref07_Nodes.l0 k1 t153 l1 (wrap64 (x5_1 + 1))) = some r := H
          have A8 := iC.mk A80
          clear A80
          have H' := iC.mk H
          clear H
          have p152 : 0 ≤ (x5_1 : Int) := of_decide_eq_true asm_
          have q152 : x5_1 < (l1.length : Int) := of_decide_eq_true asm_
          obtain ⟨ad152, e152, hx152_0⟩ := Kd.at_int (Kd.C_kept_now HR1.out HK.out) x5_1 p152 q152
          cases e152
          replace p152 := eq_true p152
          replace q152 := eq_true q152
          obtain ⟨Ao9, co9, eo9⟩ := Kd.R_slice HO_0.out
          subst eo9
          go_wp2_with (first | ((with_reducible refine jK (f := 57) rfl ?_); refine lV (some 23) rfl rfl Tryd.func57 (by kernel_rfl) rfl #[.slice Ao9 x0_1.length co9, .int .u64 (IntKind.u64.wrap (rd l1 x5_1)), .int .i64 1] rfl (by (try simp only [List.map_toArray, List.map_cons, List.map_nil]); first | done | rfl | (simp only [List.length_drop, List.length_take]; rfl)) ?_; (with_reducible refine (stratumref07_Put.calls k1 (fun k_ => some k_ = (.slice Ao9 x0_1.length co9 : Value).ownBlock) (.slice Ao9 x0_1.length co9) x0_1 (IntKind.u64.wrap (rd l1 x5_1)) 1 t153 w0 _ ?side1 ?side2 A8.out).mono ?_); (case side1 => repeat (first | (with_reducible first | exact HB.out | apply iF | apply iG | apply iH) | exact HB.out)); (case side2 => exact Kd.R_tight rfl HO_0.out); rintro e w10 ⟨v154, rfl, ho0, hb, hkp⟩; refine ⟨_, rfl, ?_⟩; have n0_ := iC.mk (Kd.R_mono (ok' := fun k_ => (P0_ k_ ∨ w.heap.size ≤ k_)) ho0 (fun k_ hk_ => Or.elim hk_ (fun hs_ => (HO_0.out.1 k_ (hs_).symm)) (fun hn_ => (.inr (Nat.le_trans (by first | exact HK.out.1 | exact (show Kept w _ (fun k_ => P0_ k_) from by repeat (first | (with_reducible first | exact HK.out | apply Kept.alloc | apply Kept.drewN | apply Kept.drew) | exact HK.out)).1) hn_))))); have n1_ := iC.mk (Kept.then_ (S := (fun k_ => P0_ k_)) (by repeat (first | (with_reducible first | exact HK.out | apply Kept.alloc | apply Kept.drewN | apply Kept.drew) | exact HK.out)) hkp (fun k_ hs_ => (fun e_ => (HO_0.out.1 k_ e_.symm)) hs_)); have n2_ := iC.mk (hb); clear HK; clear HB; clear HO_0; have HO155 := n0_; have HK := n1_; have HB := n2_; clear n0_ n1_ n2_; (try clear hb); (try clear hkp); (try clear ho0)))
          go_roundg k1
          case measure => have := HK1.out; omega
          case rel => exact ⟨(t153), (wrap64 (x5_1 + 1)), (by first | rfl | (simp; done) | (simp [*]; done)), H', ⟨by have := HK1.out; omega⟩, ⟨by (with_reducible repeat (first | apply Kd.R_alloc | apply Kd.R_drewN | apply Kd.R_drew)); exact HO155.out⟩, ⟨by repeat (first | (with_reducible first | exact HK.out | apply Kept.alloc | apply Kept.drewN | apply Kept.drew) | exact HK.out)⟩, ⟨hb_⟩⟩
        · rw [if_neg c7] at H
          exact absurd H (by simp)
      · rw [if_neg c6] at H
        have c6b0 : decide (x5_1 < (l1.length : Int)) = false := decide_eq_false c6
        clear c6
        obtain rfl := Option.some.inj H
        go_wp2
        go_ret
        exact ⟨_, by first | rfl | (simp [iM, iO] <;> rfl) | (simp [*, iM, iO] <;> rfl), by (with_reducible repeat (first | apply Kd.R_alloc | apply Kd.R_drewN | apply Kd.R_drew)); exact HO_0.out, hb_, by repeat (first | (with_reducible first | exact HK.out | apply Kept.alloc | apply Kept.drewN | apply Kept.drew) | exact HK.out)⟩
end Go.Proofs.YtgfkgppomaapiaaDoor.K
end

section
namespace Go.Proofs.YtgfkgppomaapiaaDoor.K
open Go.RowKit Go.Proofs.YtgfkgppomaapiaaDoorW.PrintWords Go.Proofs.YtgfkgppomaapiaaDoorW.PrintLast Go.Proofs.YtgfkgppomaapiaaDoorW.PrintMore
mutual
def stratumref07_Facts.l0 : Nat → List Int → List (S139) → Int → Option (List Int)
  | 0, _, _, _ => none
  | k + 1, x0, x1, x5 => if x5 < (x1.length : Int) then (if 0 ≤ x5 then ((stratumref07_Put.f k x0 (IntKind.u64.wrap ((((iV x1 x5).f0).length : Int))) 1).bind fun t160 => (stratumref07_Facts.l1 k t160 x1 x5 0)) else (none)) else (some x0)
def stratumref07_Facts.l1 : Nat → List Int → List (S139) → Int → Int → Option (List Int)
  | 0, _, _, _, _ => none
  | k + 1, x0, x1, x5, x6 => if 0 ≤ x5 then (if x5 < (x1.length : Int) then (if x6 < (((iV x1 x5).f0).length : Int) then (if 0 ≤ x6 then ((stratumref07_Put.f k x0 (IntKind.u64.wrap (rd ((iV x1 x5).f0) x6)) 4).bind fun t166 => (stratumref07_Facts.l1 k t166 x1 x5 (wrap64 (x6 + 1)))) else (none)) else ((stratumref07_Put.f k x0 (IntKind.u64.wrap ((iV x1 x5).f1)) 8).bind fun t170 => (stratumref07_Facts.l0 k t170 x1 (wrap64 (x5 + 1))))) else (none)) else (none)
end
def stratumref07_Facts.f (k : Nat) (l0 : List Int) (l1 : List (S139)) : Option (List Int) := (stratumref07_Put.f k l0 (IntKind.u64.wrap ((l1.length : Int))) 4).bind fun t156 => (stratumref07_Facts.l0 k t156 l1 0)
set_option maxHeartbeats 8000000 in
set_option maxRecDepth 100000 in
theorem stratumref07_Facts.calls (k : Nat) (P0_ : Nat → Prop) (u9000_ : Value) (l0 : List Int) (A1 : Option Addr) (c1 : Nat) (l1 : List (S139)) (r : List Int) (w0 w : World) (hB : Below w0.heap.size w0 w) (ho0 : Kd.R (Kd.int .u8) 5 w w0.heap.size P0_ u9000_ l0) (hr1 : ∀ W_, Kept w W_ (fun k_ => P0_ k_) → Kd.C k139 W_ A1 l1.length l1) (hc1 : l1.length ≤ c1) (h : stratumref07_Facts.f k l0 l1 = some r) :
    Calls Tryd.prog 59 #[u9000_, .slice A1 l1.length c1] w fun e w' => ∃ v0_ : Value, e = .returned (v0_) ∧ Kd.R (Kd.int .u8) 5 w' w0.heap.size (fun k_ => (P0_ k_ ∨ w.heap.size ≤ k_)) v0_ r ∧ Below w0.heap.size w0 w' ∧ Kept w w' (fun k_ => P0_ k_) := by
  have HO0 := iC.mk (show Kd.R (Kd.int .u8) 5 w w0.heap.size (fun k_ => (P0_ k_ ∨ w.heap.size ≤ k_)) u9000_ l0 from Kd.R_mono ho0 (fun k_ hk => (.inl hk)))
  have HR1 := iC.mk hr1
  have HC1 := iC.mk hc1
  clear hr1 hc1
  have HK := iC.mk (Kept.refl w (fun k_ => P0_ k_))
  have HW0 := iC.mk hB.size
  have HB := iC.mk hB
  clear hB
  have H : ((stratumref07_Put.f k l0 (IntKind.u64.wrap ((l1.length : Int))) 4).bind fun t156 => (stratumref07_Facts.l0 k t156 l1 0)) = some r := h
  clear h
  replace H := Option.bind_eq_some_iff.mp H
  obtain ⟨t156, A30, H⟩ := H
  replace H : (stratumref07_Facts.l0 k t156 l1 0) = some r := H
  have A3 := iC.mk A30
  clear A30
  have H' := iC.mk H
  clear H
  obtain ⟨Ao4, co4, eo4⟩ := Kd.R_slice HO0.out
  subst eo4
  go_enter Tryd.func59, Tryd.ntmps59
  go_wp2_with (first | ((with_reducible refine jK (f := 57) rfl ?_); refine lV (some 11) rfl rfl Tryd.func57 (by kernel_rfl) rfl #[.slice Ao4 l0.length co4, .int .u64 (IntKind.u64.wrap ((l1.length : Int))), .int .i64 4] rfl (by (try simp only [List.map_toArray, List.map_cons, List.map_nil]); first | done | rfl | (simp only [List.length_drop, List.length_take]; rfl)) ?_; (with_reducible refine (stratumref07_Put.calls k (fun k_ => some k_ = (.slice Ao4 l0.length co4 : Value).ownBlock) (.slice Ao4 l0.length co4) l0 (IntKind.u64.wrap ((l1.length : Int))) 4 t156 w0 _ ?side1 ?side2 A3.out).mono ?_); (case side1 => repeat (first | (with_reducible first | exact HB.out | apply iF | apply iG | apply iH) | exact HB.out)); (case side2 => exact Kd.R_tight rfl HO0.out); rintro e w5 ⟨v157, rfl, ho0, hb, hkp⟩; refine ⟨_, rfl, ?_⟩; have n0_ := iC.mk (Kd.R_mono (ok' := fun k_ => (P0_ k_ ∨ w.heap.size ≤ k_)) ho0 (fun k_ hk_ => Or.elim hk_ (fun hs_ => (HO0.out.1 k_ (hs_).symm)) (fun hn_ => (.inr (Nat.le_trans (by first | exact HK.out.1 | exact (show Kept w _ (fun k_ => P0_ k_) from by repeat (first | (with_reducible first | exact HK.out | apply Kept.alloc | apply Kept.drewN | apply Kept.drew) | exact HK.out)).1) hn_))))); have n1_ := iC.mk (Kept.then_ (S := (fun k_ => P0_ k_)) (by repeat (first | (with_reducible first | exact HK.out | apply Kept.alloc | apply Kept.drewN | apply Kept.drew) | exact HK.out)) hkp (fun k_ hs_ => (fun e_ => (HO0.out.1 k_ e_.symm)) hs_)); have n2_ := iC.mk (hb); clear HK; clear HB; clear HO0; have HO158 := n0_; have HK := n1_; have HB := n2_; clear n0_ n1_ n2_; (try clear hb); (try clear hkp); (try clear ho0)))
  go_loopg [0, 5] k (fun kq v0 v5 w' => ∃ (x0_1 : List Int) (x5_1 : Int), v5 = .int .i64 x5_1 ∧ iC (stratumref07_Facts.l0 kq x0_1 l1 x5_1 = some r) ∧ iC (kq ≤ k) ∧ iC (Kd.R (Kd.int .u8) 5 w' w0.heap.size (fun k_ => (P0_ k_ ∨ w.heap.size ≤ k_)) v0 x0_1) ∧ iC (Kept w w' (fun k_ => P0_ k_)) ∧ iC (Below w0.heap.size w0 w'))
  case atStart => exact ⟨(t156), (0), (by first | rfl | (simp; done) | (simp [*]; done)), H', ⟨Nat.le_refl _⟩, ⟨by (with_reducible repeat (first | apply Kd.R_alloc | apply Kd.R_drewN | apply Kd.R_drew)); exact HO158.out⟩, ⟨by repeat (first | (with_reducible first | exact HK.out | apply Kept.alloc | apply Kept.drewN | apply Kept.drew) | exact HK.out)⟩, ⟨hb_⟩⟩
  case round =>
    clear H'
    try clear c1
    try clear p2
    try clear c5
    obtain ⟨x0_1, x5_1, rfl, HA, HK1, HO_0, HK, HB⟩ := hrel
    cases gk with
    | zero => exact absurd HA.out (by simp [stratumref07_Facts.l0])
    | succ k1 =>
      have H := HA.out
      clear HA
      simp only [stratumref07_Facts.l0] at H
      by_cases c6 : x5_1 < (l1.length : Int)
      · rw [if_pos c6] at H
        have c6b0 : decide (x5_1 < (l1.length : Int)) = true := decide_eq_true c6
        clear c6
        by_cases c7 : 0 ≤ x5_1
        · rw [if_pos c7] at H
          have c7b0 : decide (0 ≤ x5_1) = true := decide_eq_true c7
          clear c7
          replace H := Option.bind_eq_some_iff.mp H
          obtain ⟨t160, A80, H⟩ := H
          replace H : (stratumref07_Facts.l1 k1 t160 l1 x5_1 0) = some r := H
          have A8 := iC.mk A80
          clear A80
          have H' := iC.mk H
          clear H
          have p159 : 0 ≤ (x5_1 : Int) := of_decide_eq_true asm_
          have q159 : x5_1 < (l1.length : Int) := of_decide_eq_true asm_
          obtain ⟨ad159, A159_0, c159_0, e159, hx159_0, hx159_1, hl159_0, hi159_0⟩ := kN (Kd.C_kept_now HR1.out HK.out) x5_1 p159 q159
          cases e159
          have HR159_0 := iC.mk hi159_0
          have HC159_0 := iC.mk hl159_0
          clear hi159_0 hl159_0
          replace p159 := eq_true p159
          replace q159 := eq_true q159
          obtain ⟨Ao9, co9, eo9⟩ := Kd.R_slice HO_0.out
          subst eo9
          go_wp2_with (first | ((with_reducible refine jK (f := 57) rfl ?_); refine lV (some 26) rfl rfl Tryd.func57 (by kernel_rfl) rfl #[.slice Ao9 x0_1.length co9, .int .u64 (IntKind.u64.wrap ((((iV l1 x5_1).f0).length : Int))), .int .i64 1] rfl (by (try simp only [List.map_toArray, List.map_cons, List.map_nil]); first | done | rfl | (simp only [List.length_drop, List.length_take]; rfl)) ?_; (with_reducible refine (stratumref07_Put.calls k1 (fun k_ => some k_ = (.slice Ao9 x0_1.length co9 : Value).ownBlock) (.slice Ao9 x0_1.length co9) x0_1 (IntKind.u64.wrap ((((iV l1 x5_1).f0).length : Int))) 1 t160 w0 _ ?side1 ?side2 A8.out).mono ?_); (case side1 => repeat (first | (with_reducible first | exact HB.out | apply iF | apply iG | apply iH) | exact HB.out)); (case side2 => exact Kd.R_tight rfl HO_0.out); rintro e w10 ⟨v161, rfl, ho0, hb, hkp⟩; refine ⟨_, rfl, ?_⟩; have n0_ := iC.mk (Kd.R_mono (ok' := fun k_ => (P0_ k_ ∨ w.heap.size ≤ k_)) ho0 (fun k_ hk_ => Or.elim hk_ (fun hs_ => (HO_0.out.1 k_ (hs_).symm)) (fun hn_ => (.inr (Nat.le_trans (by first | exact HK.out.1 | exact (show Kept w _ (fun k_ => P0_ k_) from by repeat (first | (with_reducible first | exact HK.out | apply Kept.alloc | apply Kept.drewN | apply Kept.drew) | exact HK.out)).1) hn_))))); have n1_ := iC.mk (Kept.then_ (S := (fun k_ => P0_ k_)) (by repeat (first | (with_reducible first | exact HK.out | apply Kept.alloc | apply Kept.drewN | apply Kept.drew) | exact HK.out)) hkp (fun k_ hs_ => (fun e_ => (HO_0.out.1 k_ e_.symm)) hs_)); have n2_ := iC.mk (hb); clear HK; clear HB; clear HO_0; have HO162 := n0_; have HK := n1_; have HB := n2_; clear n0_ n1_ n2_; (try clear hb); (try clear hkp); (try clear ho0)))
          go_loopg [0, 6] k1 (fun kq v0 v6 w' => ∃ (x0_2 : List Int) (x6_2 : Int), v6 = .int .i64 x6_2 ∧ iC (stratumref07_Facts.l1 kq x0_2 l1 x5_1 x6_2 = some r) ∧ iC (kq ≤ k1) ∧ iC (Kd.R (Kd.int .u8) 5 w' w0.heap.size (fun k_ => (P0_ k_ ∨ w.heap.size ≤ k_)) v0 x0_2) ∧ iC (Kept w w' (fun k_ => P0_ k_)) ∧ iC (Below w0.heap.size w0 w'))
          case atStart => exact ⟨(t160), (0), (by first | rfl | (simp; done) | (simp [*]; done)), H', ⟨Nat.le_refl _⟩, ⟨by (with_reducible repeat (first | apply Kd.R_alloc | apply Kd.R_drewN | apply Kd.R_drew)); exact HO162.out⟩, ⟨by repeat (first | (with_reducible first | exact HK.out | apply Kept.alloc | apply Kept.drewN | apply Kept.drew) | exact HK.out)⟩, ⟨hb_⟩⟩
          case round =>
            clear H'
            try clear c1
            try clear p1
            try clear q1
            try clear hx1
            try clear p2
            try clear c5
            try clear c6
            try clear c6b0
            try clear c7
            try clear c7b0
            try clear hx159_0
            try clear hx159_1
            try clear p159
            try clear p2
            try clear q159
            obtain ⟨x0_2, x6_2, rfl, HA, HK2, HO_0, HK, HB⟩ := hrel
            cases gk with
            | zero => exact absurd HA.out (by simp [stratumref07_Facts.l1])
            | succ k2 =>
              have H := HA.out
              clear HA
              simp only [stratumref07_Facts.l1] at H
              by_cases c11 : 0 ≤ x5_1
              · rw [if_pos c11] at H
                have c11b0 : decide (0 ≤ x5_1) = true := decide_eq_true c11
                clear c11
                by_cases c12 : x5_1 < (l1.length : Int)
                · rw [if_pos c12] at H
                  have c12b0 : decide (x5_1 < (l1.length : Int)) = true := decide_eq_true c12
                  clear c12
                  by_cases c13 : x6_2 < (((iV l1 x5_1).f0).length : Int)
                  · rw [if_pos c13] at H
                    have c13b0 : decide (x6_2 < (((iV l1 x5_1).f0).length : Int)) = true := decide_eq_true c13
                    clear c13
                    by_cases c14 : 0 ≤ x6_2
                    · rw [if_pos c14] at H
                      have c14b0 : decide (0 ≤ x6_2) = true := decide_eq_true c14
                      clear c14
                      replace H := Option.bind_eq_some_iff.mp H
                      obtain ⟨t166, A150, H⟩ := H
                      replace H : (stratumref07_Facts.l1 k2 t166 l1 x5_1 (wrap64 (x6_2 + 1))) = some r := H
                      have A15 := iC.mk A150
                      clear A150
                      have H' := iC.mk H
                      clear H
                      have p163 : 0 ≤ (x5_1 : Int) := of_decide_eq_true asm_
                      have q163 : x5_1 < (l1.length : Int) := of_decide_eq_true asm_
                      obtain ⟨ad163, A163_0, c163_0, e163, hx163_0, hx163_1, hl163_0, hi163_0⟩ := kN (Kd.C_kept_now HR1.out HK.out) x5_1 p163 q163
                      obtain rfl : ad159 = ad163 := (by injection e163)
                      have HR163_0 := iC.mk hi163_0
                      have HC163_0 := iC.mk hl163_0
                      clear hi163_0 hl163_0
                      replace p163 := eq_true p163
                      replace q163 := eq_true q163
                      have p164 : 0 ≤ (x5_1 : Int) := of_decide_eq_true asm_
                      have q164 : x5_1 < (l1.length : Int) := of_decide_eq_true asm_
                      obtain ⟨ad164, A164_0, c164_0, e164, hx164_0, hx164_1, hl164_0, hi164_0⟩ := kN (Kd.C_kept_now HR1.out HK.out) x5_1 p164 q164
                      obtain rfl : ad159 = ad164 := (by injection e164)
                      have HR164_0 := iC.mk hi164_0
                      have HC164_0 := iC.mk hl164_0
                      clear hi164_0 hl164_0
                      replace p164 := eq_true p164
                      replace q164 := eq_true q164
                      have ea_ := Option.some.inj (hx163_0.symm.trans hx164_0)
                      injection ea_ with ea_ en_ ec_
                      subst ea_
                      subst ec_
                      clear en_
                      have p165 : 0 ≤ (x6_2 : Int) := of_decide_eq_true asm_
                      have q165 : x6_2 < (((iV l1 x5_1).f0).length : Int) := of_decide_eq_true asm_
                      obtain ⟨ad165, e165, hx165_0⟩ := Kd.at_int (by repeat (first | (with_reducible exact HR164_0.out) | (with_reducible refine Kd.C_alloc ?_ _) | (with_reducible refine Kd.C_drewN ?_ _) | (with_reducible refine Kd.C_drew ?_) | exact HR164_0.out)) x6_2 p165 q165
                      cases e165
                      replace p165 := eq_true p165
                      replace q165 := eq_true q165
                      obtain ⟨Ao16, co16, eo16⟩ := Kd.R_slice HO_0.out
                      subst eo16
                      go_wp2_with (first | ((with_reducible refine jK (f := 57) rfl ?_); refine lV (some 47) rfl rfl Tryd.func57 (by kernel_rfl) rfl #[.slice Ao16 x0_2.length co16, .int .u64 (IntKind.u64.wrap (rd ((iV l1 x5_1).f0) x6_2)), .int .i64 4] rfl (by (try simp only [List.map_toArray, List.map_cons, List.map_nil]); first | done | rfl | (simp only [List.length_drop, List.length_take]; rfl)) ?_; (with_reducible refine (stratumref07_Put.calls k2 (fun k_ => some k_ = (.slice Ao16 x0_2.length co16 : Value).ownBlock) (.slice Ao16 x0_2.length co16) x0_2 (IntKind.u64.wrap (rd ((iV l1 x5_1).f0) x6_2)) 4 t166 w0 _ ?side1 ?side2 A15.out).mono ?_); (case side1 => repeat (first | (with_reducible first | exact HB.out | apply iF | apply iG | apply iH) | exact HB.out)); (case side2 => exact Kd.R_tight rfl HO_0.out); rintro e w17 ⟨v167, rfl, ho0, hb, hkp⟩; refine ⟨_, rfl, ?_⟩; have n0_ := iC.mk (Kd.R_mono (ok' := fun k_ => (P0_ k_ ∨ w.heap.size ≤ k_)) ho0 (fun k_ hk_ => Or.elim hk_ (fun hs_ => (HO_0.out.1 k_ (hs_).symm)) (fun hn_ => (.inr (Nat.le_trans (by first | exact HK.out.1 | exact (show Kept w _ (fun k_ => P0_ k_) from by repeat (first | (with_reducible first | exact HK.out | apply Kept.alloc | apply Kept.drewN | apply Kept.drew) | exact HK.out)).1) hn_))))); have n1_ := iC.mk (Kept.then_ (S := (fun k_ => P0_ k_)) (by repeat (first | (with_reducible first | exact HK.out | apply Kept.alloc | apply Kept.drewN | apply Kept.drew) | exact HK.out)) hkp (fun k_ hs_ => (fun e_ => (HO_0.out.1 k_ e_.symm)) hs_)); have n2_ := iC.mk (hb); clear HK; clear HB; clear HO_0; have HO168 := n0_; have HK := n1_; have HB := n2_; clear n0_ n1_ n2_; (try clear hb); (try clear hkp); (try clear ho0)))
                      go_roundg k2
                      case measure => have := HK1.out; have := HK2.out; omega
                      case rel => exact ⟨(t166), (wrap64 (x6_2 + 1)), (by first | rfl | (simp; done) | (simp [*]; done)), H', ⟨by have := HK1.out; have := HK2.out; omega⟩, ⟨by (with_reducible repeat (first | apply Kd.R_alloc | apply Kd.R_drewN | apply Kd.R_drew)); exact HO168.out⟩, ⟨by repeat (first | (with_reducible first | exact HK.out | apply Kept.alloc | apply Kept.drewN | apply Kept.drew) | exact HK.out)⟩, ⟨hb_⟩⟩
                    · rw [if_neg c14] at H
                      exact absurd H (by simp)
                  · rw [if_neg c13] at H
                    have c13b0 : decide (x6_2 < (((iV l1 x5_1).f0).length : Int)) = false := decide_eq_false c13
                    clear c13
                    replace H := Option.bind_eq_some_iff.mp H
                    obtain ⟨t170, A180, H⟩ := H
                    replace H : (stratumref07_Facts.l0 k2 t170 l1 (wrap64 (x5_1 + 1))) = some r := H
                    have A18 := iC.mk A180
                    clear A180
                    have H' := iC.mk H
                    clear H
                    have p163 : 0 ≤ (x5_1 : Int) := of_decide_eq_true asm_
                    have q163 : x5_1 < (l1.length : Int) := of_decide_eq_true asm_
                    obtain ⟨ad163, A163_0, c163_0, e163, hx163_0, hx163_1, hl163_0, hi163_0⟩ := kN (Kd.C_kept_now HR1.out HK.out) x5_1 p163 q163
                    obtain rfl : ad159 = ad163 := (by injection e163)
                    have HR163_0 := iC.mk hi163_0
                    have HC163_0 := iC.mk hl163_0
                    clear hi163_0 hl163_0
                    replace p163 := eq_true p163
                    replace q163 := eq_true q163
                    have p169 : 0 ≤ (x5_1 : Int) := of_decide_eq_true asm_
                    have q169 : x5_1 < (l1.length : Int) := of_decide_eq_true asm_
                    obtain ⟨ad169, A169_0, c169_0, e169, hx169_0, hx169_1, hl169_0, hi169_0⟩ := kN (Kd.C_kept_now HR1.out HK.out) x5_1 p169 q169
                    obtain rfl : ad159 = ad169 := (by injection e169)
                    have HR169_0 := iC.mk hi169_0
                    have HC169_0 := iC.mk hl169_0
                    clear hi169_0 hl169_0
                    replace p169 := eq_true p169
                    replace q169 := eq_true q169
                    have ea_ := Option.some.inj (hx163_0.symm.trans hx169_0)
                    injection ea_ with ea_ en_ ec_
                    subst ea_
                    subst ec_
                    clear en_
                    obtain ⟨Ao19, co19, eo19⟩ := Kd.R_slice HO_0.out
                    subst eo19
                    go_wp2_with (first | ((with_reducible refine jK (f := 57) rfl ?_); refine lV (some 55) rfl rfl Tryd.func57 (by kernel_rfl) rfl #[.slice Ao19 x0_2.length co19, .int .u64 (IntKind.u64.wrap ((iV l1 x5_1).f1)), .int .i64 8] rfl (by (try simp only [List.map_toArray, List.map_cons, List.map_nil]); first | done | rfl | (simp only [List.length_drop, List.length_take]; rfl)) ?_; (with_reducible refine (stratumref07_Put.calls k2 (fun k_ => some k_ = (.slice Ao19 x0_2.length co19 : Value).ownBlock) (.slice Ao19 x0_2.length co19) x0_2 (IntKind.u64.wrap ((iV l1 x5_1).f1)) 8 t170 w0 _ ?side1 ?side2 A18.out).mono ?_); (case side1 => repeat (first | (with_reducible first | exact HB.out | apply iF | apply iG | apply iH) | exact HB.out)); (case side2 => exact Kd.R_tight rfl HO_0.out); rintro e w20 ⟨v171, rfl, ho0, hb, hkp⟩; refine ⟨_, rfl, ?_⟩; have n0_ := iC.mk (Kd.R_mono (ok' := fun k_ => (P0_ k_ ∨ w.heap.size ≤ k_)) ho0 (fun k_ hk_ => Or.elim hk_ (fun hs_ => (HO_0.out.1 k_ (hs_).symm)) (fun hn_ => (.inr (Nat.le_trans (by first | exact HK.out.1 | exact (show Kept w _ (fun k_ => P0_ k_) from by repeat (first | (with_reducible first | exact HK.out | apply Kept.alloc | apply Kept.drewN | apply Kept.drew) | exact HK.out)).1) hn_))))); have n1_ := iC.mk (Kept.then_ (S := (fun k_ => P0_ k_)) (by repeat (first | (with_reducible first | exact HK.out | apply Kept.alloc | apply Kept.drewN | apply Kept.drew) | exact HK.out)) hkp (fun k_ hs_ => (fun e_ => (HO_0.out.1 k_ e_.symm)) hs_)); have n2_ := iC.mk (hb); clear HK; clear HB; clear HO_0; have HO172 := n0_; have HK := n1_; have HB := n2_; clear n0_ n1_ n2_; (try clear hb); (try clear hkp); (try clear ho0)))
                    go_roundg k2
                    case measure => have := HK1.out; have := HK2.out; omega
                    case rel => exact ⟨(t170), (wrap64 (x5_1 + 1)), (by first | rfl | (simp; done) | (simp [*]; done)), H', ⟨by have := HK1.out; have := HK2.out; omega⟩, ⟨by (with_reducible repeat (first | apply Kd.R_alloc | apply Kd.R_drewN | apply Kd.R_drew)); exact HO172.out⟩, ⟨by repeat (first | (with_reducible first | exact HK.out | apply Kept.alloc | apply Kept.drewN | apply Kept.drew) | exact HK.out)⟩, ⟨hb_⟩⟩
                · rw [if_neg c12] at H
                  exact absurd H (by simp)
              · rw [if_neg c11] at H
                exact absurd H (by simp)
        · rw [if_neg c7] at H
          exact absurd H (by simp)
      · rw [if_neg c6] at H
        have c6b0 : decide (x5_1 < (l1.length : Int)) = false := decide_eq_false c6
        clear c6
        obtain rfl := Option.some.inj H
        go_wp2
        go_ret
        exact ⟨_, by first | rfl | (simp [iM, iO] <;> rfl) | (simp [*, iM, iO] <;> rfl), by (with_reducible repeat (first | apply Kd.R_alloc | apply Kd.R_drewN | apply Kd.R_drew)); exact HO_0.out, hb_, by repeat (first | (with_reducible first | exact HK.out | apply Kept.alloc | apply Kept.drewN | apply Kept.drew) | exact HK.out)⟩
end Go.Proofs.YtgfkgppomaapiaaDoor.K
end

section
namespace Go.Proofs.YtgfkgppomaapiaaDoor.K
open RowKit YtgfkgppomaapiaaDoorW.PrintWords YtgfkgppomaapiaaDoorW.PrintLast YtgfkgppomaapiaaDoorW.PrintMore My
theorem wrap_u64 (x : Int) : IntKind.u64.wrap x = x % 18446744073709551616 := by rfl
theorem PT (x : Int) (m : Nat) (hm : m < 8) : (shr .u64 (IntKind.u64.wrap x) (8 * (m : Int))) % 256 = (x / 256 ^ m) % 256 := by
  rw [wrap_u64]
  have h : m = 0 ∨ m = 1 ∨ m = 2 ∨ m = 3 ∨ m = 4 ∨ m = 5 ∨ m = 6 ∨ m = 7 := by omega
  unfold shr
  rw [show IntKind.u64.bits = 64 from rfl]
  rcases h with rfl | rfl | rfl | rfl | rfl | rfl | rfl | rfl <;> simp <;> omega
theorem nums_append (l m : List UInt8) : nums (l ++ m) = nums l ++ nums m := List.map_append ..
theorem NY (b : UInt8) (l : List UInt8) : nums (b :: l) = (b.toNat : Int) :: nums l := rfl
theorem UU (v : Int) : ((UInt8.ofNat (v % 256).toNat).toNat : Int) = v % 256 := by
  rw [UInt8.toNat_ofNat']
  omega
theorem NJ (x : Int) : ∀ (n : Nat) (l : List Int), n ≤ 8 → l.length + n ≤ 140737488355328 → Ev (fun k => stratumref07_Put.l0 k l (IntKind.u64.wrap x) ((n : Int) - 1)) (l ++ nums (layB x n))
  | 0, l, _, _ => by
    refine Ev.step (f := fun _ => some l) (fun k => by simp only [stratumref07_Put.l0]; rw [if_neg (by omega)]) ?_
    simp only [layB, nums, List.map_nil, List.append_nil]
    exact Ev.now _
  | n + 1, l, hn, hl => by
    have e1 : ((n + 1 : Nat) : Int) - 1 = n := by omega
    have e2 : IntKind.u64.wrap ((n : Nat) : Int) = n := by rw [wrap_u64]; omega
    have e3 : IntKind.u64.wrap (8 * (n : Int)) = 8 * n := by rw [wrap_u64]; omega
    have e4 : wrap64 ((n : Int) - 1) = n - 1 := by unfold wrap64; omega
    rw [e1, layB, NY, UU]
    refine Ev.step (f := fun k => stratumref07_Put.l0 k (l ++ [x / 256 ^ n % 256]) (IntKind.u64.wrap x) ((n : Int) - 1)) (fun k => by simp only [stratumref07_Put.l0]; rw [if_pos (by omega), e2, e3, if_pos (by omega), if_pos (by omega), PT x n (by omega), e4]) ?_
    have := NJ x n (l ++ [x / 256 ^ n % 256]) (by omega) (by rw [List.length_append]; simp only [List.length_cons, List.length_nil]; omega)
    rw [List.append_assoc] at this
    exact this
theorem vI (x : Int) (n : Nat) (l : List Int) (hn : n ≤ 8) (hl : l.length + n ≤ 140737488355328) : Ev (fun k => stratumref07_Put.f k l (IntKind.u64.wrap x) (n : Int)) (l ++ nums (layB x n)) := by
  unfold stratumref07_Put.f
  rw [show wrap64 ((n : Int) - 1) = n - 1 from by unfold wrap64; omega]
  exact NJ x n l hn hl
theorem N9 (l1 : List Int) (hn : l1.length ≤ 9223372036854775807) (d : Nat) : ∀ (i : Int) (l : List Int), 0 ≤ i → i ≤ l1.length → (l1.length : Int) - i = d → l.length + d ≤ 140737488355328 → Ev (fun k => stratumref07_Nodes.l0 k l l1 i) (l ++ nums ((l1.drop i.toNat).flatMap (layB · 1))) := by
  induction d with
  | zero =>
    intro i l h0 h1 hd hl
    rw [drop_end _ i (by omega)]
    refine Ev.step (f := fun _ => some l) (fun k => by simp only [stratumref07_Nodes.l0]; rw [if_neg (by omega)]) ?_
    simp only [List.flatMap_nil, nums, List.map_nil, List.append_nil]
    exact Ev.now _
  | succ d ih =>
    intro i l h0 h1 hd hl
    have hlt : i < (l1.length : Int) := by omega
    rw [oV 0 l1 i (by omega) h0, List.flatMap_cons, nums_append, ← List.append_assoc]
    refine Ev.step (f := fun k => (stratumref07_Put.f k l (IntKind.u64.wrap (rd l1 i)) 1).bind fun t => stratumref07_Nodes.l0 k t l1 (i + 1)) (fun k => by simp only [stratumref07_Nodes.l0]; rw [if_pos hlt, if_pos h0, mQ h0 hlt hn]) ?_
    exact Ev.bind (vI (rd l1 i) 1 l (by omega) (by omega)) (ih (i + 1) _ (by omega) (by omega) (by omega) (by rw [List.length_append, jD, iL]; omega))
theorem P9 (l1 : List Int) (l : List Int) (hl : l.length + (lN l1).length ≤ 140737488355328) : Ev (fun k => stratumref07_Nodes.f k l l1) (l ++ nums (lN l1)) := by
  have hlen : (lN l1).length = 1 + l1.length := by
    unfold lN
    rw [List.length_append, iL]
    congr 1
    induction l1 with
    | nil => rfl
    | cons x l ih => rw [List.flatMap_cons, List.length_append, iL, List.length_cons]; have := ih (by rw [show (lN l).length = 1 + (l.flatMap (layB · 1)).length from by unfold lN; rw [List.length_append, iL]]; rw [show (lN (x :: l)).length = 1 + (1 + (l.flatMap (layB · 1)).length) from by unfold lN; rw [List.length_append, iL, List.flatMap_cons, List.length_append, iL]] at hl; omega); omega
  unfold lN
  rw [nums_append, ← List.append_assoc]
  exact Ev.bind (vI (l1.length : Int) 1 l (by omega) (by omega)) (N9 l1 (by omega) l1.length 0 _ (by omega) (by omega) (by omega) (by rw [List.length_append, jD, iL]; omega))
theorem PR (l1 : List jO) (i : Int) (h0 : 0 ≤ i) (hlt : i < l1.length) (hn : l1.length ≤ 9223372036854775807) (hk : (iV l1 i).f0.length ≤ 9223372036854775807) (R : List Int)
    (m : Nat) (hR : ∀ l : List Int, l.length + m ≤ 140737488355328 → Ev (fun k => stratumref07_Facts.l0 k l l1 (i + 1)) (l ++ R)) (d : Nat) : ∀ (j : Int) (l : List Int), 0 ≤ j → j ≤ (iV l1 i).f0.length → ((iV l1 i).f0.length : Int) - j = d → l.length + 4 * d + 8 + m ≤ 140737488355328 →
    Ev (fun k => stratumref07_Facts.l1 k l l1 i j) (l ++ nums (((iV l1 i).f0.drop j.toNat).flatMap (layB · 4)) ++ nums (layB (iV l1 i).f1 8) ++ R) := by
  induction d with
  | zero =>
    intro j l g0 g1 hd hl
    rw [drop_end _ j (by omega)]
    refine Ev.step (f := fun k => (stratumref07_Put.f k l (IntKind.u64.wrap (iV l1 i).f1) 8).bind fun t => stratumref07_Facts.l0 k t l1 (i + 1)) (fun k => by simp only [stratumref07_Facts.l1]; rw [if_pos h0, if_pos hlt, if_neg (by omega), mQ h0 hlt hn]) ?_
    simp only [List.flatMap_nil, nums, List.map_nil, List.append_nil]
    exact Ev.bind (vI _ 8 l (by omega) (by omega)) (hR _ (by rw [List.length_append, jD, iL]; omega))
  | succ d ih =>
    intro j l g0 g1 hd hl
    have hj : j < ((iV l1 i).f0.length : Int) := by omega
    rw [oV 0 _ j (by omega) g0, List.flatMap_cons, nums_append, ← List.append_assoc l]
    refine Ev.step (f := fun k => (stratumref07_Put.f k l (IntKind.u64.wrap (rd (iV l1 i).f0 j)) 4).bind fun t => stratumref07_Facts.l1 k t l1 i (j + 1)) (fun k => by simp only [stratumref07_Facts.l1]; rw [if_pos h0, if_pos hlt, if_pos hj, if_pos g0, mQ g0 hj hk]) ?_
    exact Ev.bind (vI _ 4 l (by omega) (by omega)) (ih (j + 1) _ (by omega) (by omega) (by omega) (by rw [List.length_append, jD, iL]; omega))
theorem MO (l1 : List jO) (hn : l1.length ≤ 9223372036854775807) (hk : ∀ f ∈ l1, f.f0.length ≤ 9223372036854775807) (d : Nat) : ∀ (i : Int) (l : List Int), 0 ≤ i → i ≤ l1.length → (l1.length : Int) - i = d → l.length + ((l1.drop i.toNat).flatMap mV).length ≤ 140737488355328 →
    Ev (fun k => stratumref07_Facts.l0 k l l1 i) (l ++ nums ((l1.drop i.toNat).flatMap mV)) := by
  induction d with
  | zero =>
    intro i l h0 h1 hd hl
    rw [drop_end _ i (by omega)]
    refine Ev.step (f := fun _ => some l) (fun k => by simp only [stratumref07_Facts.l0]; rw [if_neg (by omega)]) ?_
    simp only [List.flatMap_nil, nums, List.map_nil, List.append_nil]
    exact Ev.now _
  | succ d ih =>
    intro i l h0 h1 hd hl
    have hlt : i < (l1.length : Int) := by omega
    have hm : iV l1 i ∈ l1 := by
      unfold iV
      rw [List.getD_eq_getElem?_getD, List.getElem?_eq_getElem (show i.toNat < l1.length by omega)]
      exact List.getElem_mem _
    rw [oV z139 l1 i (by omega) h0, List.flatMap_cons, show l1.getD i.toNat z139 = iV l1 i from rfl] at hl ⊢
    rw [List.length_append, uP] at hl
    rw [nums_append]
    refine Ev.step (f := fun k => (stratumref07_Put.f k l (IntKind.u64.wrap ((iV l1 i).f0.length : Int)) 1).bind fun t => stratumref07_Facts.l1 k t l1 i 0) (fun k => by simp only [stratumref07_Facts.l0]; rw [if_pos hlt, if_pos h0]) ?_
    have hr := PR l1 i h0 hlt hn (hk _ hm) (nums ((l1.drop (i + 1).toNat).flatMap mV)) ((l1.drop (i + 1).toNat).flatMap mV).length (fun t ht => ih (i + 1) t (by omega) (by omega) (by omega) ht) (iV l1 i).f0.length 0 (l ++ nums (layB ((iV l1 i).f0.length : Int) 1)) (by omega) (by omega) (by omega) (by rw [List.length_append, jD, iL]; omega)
    have e : l ++ (nums (mV (iV l1 i)) ++ nums ((l1.drop (i + 1).toNat).flatMap mV)) = l ++ nums (layB ((iV l1 i).f0.length : Int) 1) ++ nums (((iV l1 i).f0.drop (0 : Int).toNat).flatMap (layB · 4)) ++ nums (layB (iV l1 i).f1 8) ++ nums ((l1.drop (i + 1).toNat).flatMap mV) := by
      unfold mV
      rw [nums_append, nums_append]
      simp only [List.append_assoc]
      rfl
    rw [e]
    exact Ev.bind (vI _ 1 l (by omega) (by omega)) hr
theorem NS (l1 : List jO) : (kC l1).length = 4 + (l1.flatMap mV).length := by unfold kC; rw [List.length_append, iL]
theorem TW (l1 : List jO) : 9 * l1.length ≤ (l1.flatMap mV).length ∧ ∀ f ∈ l1, 4 * f.f0.length ≤ (l1.flatMap mV).length := by
  induction l1 with
  | nil => exact ⟨by simp, fun f h => by cases h⟩
  | cons x l ih =>
    rw [List.flatMap_cons, List.length_append, uP, List.length_cons]
    refine ⟨by omega, fun f hf => ?_⟩
    rcases List.mem_cons.1 hf with rfl | hf
    · omega
    · have := ih.2 f hf; omega
theorem vH (l1 : List jO) (l : List Int) (hl : l.length + (kC l1).length ≤ 140737488355328) : Ev (fun k => stratumref07_Facts.f k l l1) (l ++ nums (kC l1)) := by
  rw [NS] at hl
  have hg := TW l1
  unfold kC
  rw [nums_append, ← List.append_assoc]
  exact Ev.bind (vI (l1.length : Int) 4 l (by omega) (by omega)) (MO l1 (by omega) (fun f hf => by have := hg.2 f hf; omega) l1.length 0 _ (by omega) (by omega) (by omega) (by rw [List.length_append, jD, iL]; show _ + (l1.flatMap mV).length ≤ _; omega))
end Go.Proofs.YtgfkgppomaapiaaDoor.K
end

section
namespace Go.Proofs.YtgfkgppomaapiaaDoor.K
open RowKit YtgfkgppomaapiaaDoorW.PrintWords YtgfkgppomaapiaaDoorW.PrintLast YtgfkgppomaapiaaDoorW.PrintMore My
def yK (P0 : Nat → Prop) (r : List Int) (w0 w : World) (e : Ending) (w' : World) : Prop :=
  ∃ v' : Value, e = .returned v' ∧ Kd.R (Kd.int .u8) 5 w' w0.heap.size (fun k => P0 k ∨ w.heap.size ≤ k) v' r ∧ Below w0.heap.size w0 w' ∧ Kept w w' P0
theorem kR (P0 : Nat → Prop) (v : Value) (l : List Int) (x X : Int) (n : Nat) (nI : Int) (w0 w : World) (hX : X = IntKind.u64.wrap x) (hI : nI = n) (hn : n ≤ 8) (hl : l.length + n ≤ 140737488355328) (hB : Below w0.heap.size w0 w) (ho : Kd.R (Kd.int .u8) 5 w w0.heap.size P0 v l) :
    Calls Tryd.prog 57 #[v, .int .u64 X, .int .i64 nI] w (yK P0 (l ++ nums (layB x n)) w0 w) := by
  subst hI; subst hX
  obtain ⟨k, hk⟩ := (vI x n l hn hl).rounds
  exact stratumref07_Put.calls k P0 v l _ _ _ w0 w hB ho hk
theorem yB (P0 : Nat → Prop) (v : Value) (l : List Int) (A1 : Option Addr) (c1 : Nat) (l1 : List Int) (w0 w : World) (hl : l.length + (lN l1).length ≤ 140737488355328) (hB : Below w0.heap.size w0 w) (ho : Kd.R (Kd.int .u8) 5 w w0.heap.size P0 v l) (hr1 : ∀ W_, Kept w W_ (fun k_ => P0 k_) → Kd.C (Kd.int .i64) W_ A1 l1.length l1) (hc1 : l1.length ≤ c1) :
    Calls Tryd.prog 58 #[v, .slice A1 l1.length c1] w (yK P0 (l ++ nums (lN l1)) w0 w) := by
  obtain ⟨k, hk⟩ := (P9 l1 l hl).rounds
  exact stratumref07_Nodes.calls k P0 v l A1 c1 l1 _ w0 w hB ho hr1 hc1 hk
theorem xH (P0 : Nat → Prop) (v : Value) (l : List Int) (A1 : Option Addr) (c1 : Nat) (l1 : List jO) (w0 w : World) (hl : l.length + (kC l1).length ≤ 140737488355328) (hB : Below w0.heap.size w0 w) (ho : Kd.R (Kd.int .u8) 5 w w0.heap.size P0 v l) (hr1 : ∀ W_, Kept w W_ (fun k_ => P0 k_) → Kd.C k139 W_ A1 l1.length l1) (hc1 : l1.length ≤ c1) :
    Calls Tryd.prog 59 #[v, .slice A1 l1.length c1] w (yK P0 (l ++ nums (kC l1)) w0 w) := by
  obtain ⟨k, hk⟩ := (vH l1 l hl).rounds
  exact stratumref07_Facts.calls k P0 v l A1 c1 l1 _ w0 w hB ho hr1 hc1 hk
theorem xM (l : List jE) (k : Nat) (h : k < l.length) : (l.take (k + 1)).flatMap lD = (l.take k).flatMap lD ++ (layB (iP l k).f0 4 ++ kC (iP l k).f1) := by
  rw [mO z86 l k h, List.flatMap_append]
  congr 1
  simp only [List.flatMap_cons, List.flatMap_nil, List.append_nil]
  rfl
theorem O5 (l : List jE) (k : Nat) (h : k < l.length) : ((l.take k).flatMap lD).length + 4 + (kC (iP l k).f1).length ≤ (l.flatMap lD).length := by
  have e : l = l.take (k + 1) ++ l.drop (k + 1) := (List.take_append_drop _ _).symm
  conv => rhs; rw [e]
  rw [List.flatMap_append, xM l k h]
  simp only [List.length_append, iL]
  omega
theorem uA (l : List jE) : (jR l).length = 4 + (l.flatMap lD).length := by unfold jR; rw [List.length_append, iL]
theorem I8 (l : List jE) : l.length ≤ (jR l).length := by
  rw [uA]
  induction l with
  | nil => simp
  | cons e l ih =>
    rw [List.flatMap_cons, List.length_append, List.length_cons]
    have : 4 ≤ (lD e).length := by unfold lD; rw [List.length_append, iL]; omega
    omega
set_option maxRecDepth 20000 in
set_option maxHeartbeats 4000000 in
theorem uF (P0 : Nat → Prop) (v : Value) (l0 : List Int) (A1 : Option Addr) (c1 : Nat) (l1 : List jE) (w0 w : World) (hl : l0.length + (jR l1).length ≤ 140737488355328) (hB : Below w0.heap.size w0 w) (ho : Kd.R (Kd.int .u8) 5 w w0.heap.size P0 v l0) (hP : ∀ k, P0 k → w0.heap.size ≤ k) (hr1 : Kd.C k86 w0 A1 l1.length l1) (hc1 : l1.length ≤ c1) :
    Calls Tryd.prog 60 #[v, .slice A1 l1.length c1] w (yK P0 (l0 ++ nums (jR l1)) w0 w) := by
  have HO := iC.mk (show Kd.R (Kd.int .u8) 5 w w0.heap.size (fun k => P0 k ∨ w.heap.size ≤ k) v l0 from Kd.R_mono ho (fun _ h => .inl h))
  have HR := iC.mk hr1
  have HP := iC.mk (show ∀ k, (P0 k ∨ w.heap.size ≤ k) → w0.heap.size ≤ k from fun k h => h.elim (hP k) (Nat.le_trans hB.size))
  have HB := iC.mk hB
  have HL := iC.mk hl
  have HK := iC.mk (Kept.refl w P0)
  have hge := I8 l1
  have hmax : l1.length ≤ 140737488355328 := by omega
  rw [uA] at hl
  clear hr1 hB ho hge hP
  obtain ⟨Ao, co, rfl⟩ := Kd.R_slice HO.out
  go_enter Tryd.func60, Tryd.ntmps60
  go_wp2_with fail
  refine (kR _ _ l0 (l1.length : Int) _ 4 4 w0 _ (by rw [wrap_u64]; omega) rfl (by omega) (by omega) HB.out HO.out).mono ?_
  rintro e w1 ⟨v1, rfl, ho1, hb1, hk1⟩
  have HO1 := iC.mk (Kd.R_mono (ok' := fun k => P0 k ∨ w.heap.size ≤ k) ho1 (fun k h => h.elim id .inr))
  have HB1 := iC.mk hb1
  have HK1 := iC.mk (HK.out.then_ hk1 (fun _ h => h))
  clear ho1 hb1 hk1
  go_wp2_with fail
  go_loopg [0, 5] l1.length (fun gg s0 s5 wr => ∃ k : Nat, k ≤ l1.length ∧ l1.length - k ≤ gg ∧ s5 = .int .i64 k ∧ iC (Kd.R (Kd.int .u8) 5 wr w0.heap.size (fun k => P0 k ∨ w.heap.size ≤ k) s0 (l0 ++ nums (layB (l1.length : Int) 4) ++ nums ((l1.take k).flatMap lD))) ∧ iC (Below w0.heap.size w0 wr) ∧ iC (Kept w wr P0))
  case atStart => exact ⟨0, Nat.zero_le _, by omega, rfl, ⟨by simpa [nums] using HO1.out⟩, HB1, HK1⟩
  case round =>
    clear HO1 HB1 HK1 HO HB HK
    obtain ⟨k, hk, hg, rfl, HO, HB, HK⟩ := hrel
    obtain ⟨Ao, co, rfl⟩ := Kd.R_slice HO.out
    by_cases hlt : k < l1.length
    · have hln := O5 l1 k hlt
      have HT := iC.mk (xM l1 k hlt)
      obtain ⟨L, hL⟩ : ∃ L, L = l0 ++ nums (layB (l1.length : Int) 4) ++ nums ((l1.take k).flatMap lD) := ⟨_, rfl⟩
      have hLl : L.length + 4 + (kC (iP l1 k).f1).length ≤ 140737488355328 := by rw [hL]; simp only [List.length_append, jD, iL]; omega
      rw [← hL] at HO ⊢
      have HLq := iC.mk hL
      clear hL hln
      obtain ⟨ad, A', c', eA, gx0, gx1, hl', hC'⟩ := kV HR.out k (by omega) (by omega)
      cases eA
      simp only [Int.toNat_natCast] at gx0 gx1
      have hx0 := jW HB.out gx0
      have hx1 := jW HB.out gx1
      have HC' := iC.mk hC'
      have HG := iC.mk (And.intro gx0 gx1)
      clear hC' gx0 gx1
      have hcall := kR (fun k => P0 k ∨ w.heap.size ≤ k) (.slice Ao L.length co) L (iP l1 k).f0 (IntKind.u64.wrap (iP l1 k).f0) 4 4 w0 wr rfl rfl (by omega) (by omega) HB.out HO.out
      go_wp2_with fail
      go_at_call 57
      (with_reducible refine hcall.mono ?_)
      clear hcall
      rintro e w2 ⟨v2, rfl, ho2, hb2, hk2⟩
      have HO2 := iC.mk (Kd.R_mono (ok' := fun k => P0 k ∨ w.heap.size ≤ k) ho2 (fun k h => h.elim id (fun h => .inr (Nat.le_trans HK.out.1 h))))
      have HB2 := iC.mk hb2
      have HK2 := iC.mk (HK.out.then_ hk2 (fun _ h => h))
      clear ho2 hb2 hk2 hx0 hx1
      have hx0 := jW HB2.out HG.out.1
      have hx1 := jW HB2.out HG.out.2
      obtain ⟨Ao2, co2, rfl⟩ := Kd.R_slice HO2.out
      have hlen2 : (L ++ nums (layB (iP l1 k).f0 4)).length + (kC (iP l1 k).f1).length ≤ 140737488355328 := by rw [List.length_append, jD, iL]; omega
      have HE := iC.mk (show (L ++ nums (layB (iP l1 k).f0 4)) ++ nums (kC (iP l1 k).f1) = l0 ++ nums (layB (l1.length : Int) 4) ++ nums ((l1.take (k + 1)).flatMap lD) from by rw [HT.out, HLq.out, nums_append, nums_append]; simp only [List.append_assoc])
      generalize (L ++ nums (layB (iP l1 k).f0 4)) = L2 at *
      have hcall := xH (fun k => P0 k ∨ w.heap.size ≤ k) (.slice Ao2 L2.length co2) L2 A' c' (iP l1 k).f1 w0 w2 hlen2 HB2.out HO2.out (Kd.C_kept_came pG HC'.out HB2.out HP.out) hl'
      go_wp2_with fail
      go_at_call 59
      (with_reducible refine hcall.mono ?_)
      clear hcall
      rintro e w3 ⟨v3, rfl, ho3, hb3, hk3⟩
      have HO3 := iC.mk (Kd.R_mono (ok' := fun k => P0 k ∨ w.heap.size ≤ k) ho3 (fun k h => h.elim id (fun h => .inr (Nat.le_trans HK2.out.1 h))))
      have HB3 := iC.mk hb3
      have HK3 := iC.mk (HK2.out.then_ hk3 (fun _ h => h))
      clear ho3 hb3 hk3 hx0 hx1
      go_wp2_with fail
      go_roundg (l1.length - (k + 1))
      case measure => omega
      case rel => exact ⟨k + 1, by omega, by omega, by go_num, ⟨by rw [← HE.out]; exact HO3.out⟩, HB3, HK3⟩
    · have : k = l1.length := by omega
      subst this
      have HE := iC.mk (show l0 ++ nums (layB (l1.length : Int) 4) ++ nums ((l1.take l1.length).flatMap lD) = l0 ++ nums (jR l1) from by rw [List.take_length, List.append_assoc, ← nums_append]; rfl)
      go_wp2
      go_ret
      exact ⟨_, rfl, by rw [← HE.out]; exact HO.out, HB.out, HK.out⟩
def stratumref07_Entries.f (l0 : List Int) (l1 : List jE) : Option (List Int) := if l0 = [] ∧ (jR l1).length ≤ 140737488355328 then some (nums (jR l1)) else none
theorem stratumref07_Entries.calls0 (A1 : Option Addr) (c1 : Nat) (l1 : List jE) (r : List Int) (w : World) (_hr0 : Kd.C (Kd.int .u8) w none ([] : List Int).length []) (_hc0 : 0 ≤ 0) (hr1 : Kd.C k86 w A1 l1.length l1) (hc1 : l1.length ≤ c1) (h : stratumref07_Entries.f ([] : List Int) l1 = some r) :
    Calls Tryd.prog 60 #[.slice none 0 0, .slice A1 l1.length c1] w fun e w' => ∃ v0_ : Value, e = .returned (v0_) ∧ Kd.R (Kd.int .u8) 5 w' w.heap.size (fun _ => True) v0_ r ∧ Below w.heap.size w w' := by
  unfold stratumref07_Entries.f at h
  split at h
  case isFalse => cases h
  rename_i hl
  obtain rfl := Option.some.inj h
  refine (uF (fun _ => False) (.slice none 0 0) [] A1 c1 l1 w w (by simpa using hl.2) (Below.refl _ _) (Kd.R_nil _ _ _ _ _) (fun _ h => h.elim) hr1 hc1).mono ?_
  rintro e w' ⟨v', rfl, h1, h2, _⟩
  exact ⟨v', rfl, Kd.R_mono h1 (fun _ _ => trivial), h2⟩
end Go.Proofs.YtgfkgppomaapiaaDoor.K
end
