/- Parts of the proof, one behind the other: K57, SpK. -/
import Derived.Test.YtbpdejbkfpkphaaQSpansBack8
set_option linter.unusedVariables false
set_option linter.unusedSimpArgs false
section
namespace Go.Proofs.Ytbpdejbkfpkphaa.K
open Go.RowKit Go.Proofs.YtbpdejbkfpkphaaW.PrintWords Go.Proofs.YtbpdejbkfpkphaaW.PrintLast Go.Proofs.YtbpdejbkfpkphaaW.PrintMore
attribute [local go_sem] jS jR jZ kC jP jO jV jW
mutual
def stratumlaw12_SpansMoves.l0 : Nat → Int → Int → Int → Int → Int → Int → Bool → Int → Int → List (S60) → Int → List (S60) → Option (Bool)
  | 0, _, _, _, _, _, _, _, _, _, _, _, _ => none
  | k + 1, x9, x10, x12, x13, x14, x16, x17, x18, x581000, x581001, x587000, x587001 => if x18 < x13 then (if x17 = true then (stratumlaw12_SpansMoves.l0 k x9 x10 x12 x13 x14 x16 true (wrap64 (x18 + 1)) x581000 x581001 x587000 x587001) else ((spans_Find.f x581000 x581001 x18).bind fun t587 => (stratumlaw12_SpansMoves.l0 k x9 x10 x12 x13 x14 x16 (t587 != x14) (wrap64 (x18 + 1)) x581000 x581001 x587000 x587001))) else (if x16 = 0 then (stratumlaw12_SpansMoves.l1 k x9 x10 x12 x13 x14 x17 0 x581000 x581001 x587000 x587001) else ((stratumlaw12_known.f k).bind fun t588 => (if t588 = true then (if x16 = 120 then (if x17 = true then (if x16 = 3 then (some (decide ((x581001.length : Int) ≥ 39))) else (some false)) else (some true)) else (if x16 = 3 then (some (decide ((x581001.length : Int) ≥ 39))) else (some false))) else (some false))))
def stratumlaw12_SpansMoves.l1 : Nat → Int → Int → Int → Int → Int → Bool → Int → Int → List (S60) → Int → List (S60) → Option (Bool)
  | 0, _, _, _, _, _, _, _, _, _, _, _ => none
  | k + 1, x9, x10, x12, x13, x14, x17, x19, x581000, x581001, x587000, x587001 => if x19 < x10 then ((spans_Find.f x581000 x581001 x19).bind fun t591 => (if x19 ≥ x12 then (stratumlaw12_SpansMoves.j2 k x9 x10 x12 x13 x14 x17 x19 t591 (decide (x19 < x13)) x581000 x581001 x587000 x587001) else (stratumlaw12_SpansMoves.j2 k x9 x10 x12 x13 x14 x17 x19 t591 false x581000 x581001 x587000 x587001))) else ((stratumlaw12_known.f k).bind fun t589 => (if t589 = true then (if x17 = true then ((spans_Sound.f k x587000 x587001 x10 x9).bind fun t590 => (if t590 = true then (some (x587000 == ((x581000 + 1) % 4294967296))) else (some false))) else (some false)) else (some false)))
def stratumlaw12_SpansMoves.j2 : Nat → Int → Int → Int → Int → Int → Bool → Int → Int → Bool → Int → List (S60) → Int → List (S60) → Option (Bool)
  | 0, _, _, _, _, _, _, _, _, _, _, _, _, _ => none
  | k + 1, x9, x10, x12, x13, x14, x17, x19, x20, x113, x581000, x581001, x587000, x587001 => if x113 = true then ((spans_Find.f x587000 x587001 x19).bind fun t592 => (if t592 = x14 then (stratumlaw12_SpansMoves.l1 k x9 x10 x12 x13 x14 x17 (wrap64 (x19 + 1)) x581000 x581001 x587000 x587001) else (some false))) else ((spans_Find.f x587000 x587001 x19).bind fun t593 => (if t593 = x20 then (stratumlaw12_SpansMoves.l1 k x9 x10 x12 x13 x14 x17 (wrap64 (x19 + 1)) x581000 x581001 x587000 x587001) else (some false)))
end
def stratumlaw12_SpansMoves.f (k : Nat) (l0 : List (S55)) (a1 : Int) (a2 : Int) (a3_0 : Int) (a3_1 : Int) (a3_2 : Int) : Option (Bool) := (stratumlaw12_Of.f k (wrap64 (2 + (wrap64 (Int.tmod a1 200)))) (wrap64 (2 + (wrap64 (Int.tmod a2 5)))) l0).bind fun bt576 => (if (wrap64 (2 + (wrap64 (Int.tmod a1 200)))) = 0 then (none) else (if (wrap64 ((wrap64 (2 + (wrap64 (Int.tmod a1 200)))) - (Int.tmod (wrap64 (a3_0)) (wrap64 (2 + (wrap64 (Int.tmod a1 200))))))) = 0 then (none) else (if (wrap64 (2 + (wrap64 (Int.tmod a2 5)))) = 0 then (none) else ((spans_Split.f k bt576.1 bt576.2 (wrap64 (2 + (wrap64 (Int.tmod a1 200)))) (wrap64 (2 + (wrap64 (Int.tmod a2 5)))) (Int.tmod (wrap64 (a3_0)) (wrap64 (2 + (wrap64 (Int.tmod a1 200))))) (wrap64 ((wrap64 ((Int.tmod (wrap64 (a3_0)) (wrap64 (2 + (wrap64 (Int.tmod a1 200))))) + 1)) + (Int.tmod (wrap64 (a3_1)) (wrap64 ((wrap64 (2 + (wrap64 (Int.tmod a1 200)))) - (Int.tmod (wrap64 (a3_0)) (wrap64 (2 + (wrap64 (Int.tmod a1 200)))))))))) (Int.tmod (wrap64 (a3_2)) (wrap64 (2 + (wrap64 (Int.tmod a2 5)))))).bind fun bt581 => (stratumlaw12_SpansMoves.l0 k (wrap64 (2 + (wrap64 (Int.tmod a2 5)))) (wrap64 (2 + (wrap64 (Int.tmod a1 200)))) (Int.tmod (wrap64 (a3_0)) (wrap64 (2 + (wrap64 (Int.tmod a1 200))))) (wrap64 ((wrap64 ((Int.tmod (wrap64 (a3_0)) (wrap64 (2 + (wrap64 (Int.tmod a1 200))))) + 1)) + (Int.tmod (wrap64 (a3_1)) (wrap64 ((wrap64 (2 + (wrap64 (Int.tmod a1 200)))) - (Int.tmod (wrap64 (a3_0)) (wrap64 (2 + (wrap64 (Int.tmod a1 200)))))))))) (Int.tmod (wrap64 (a3_2)) (wrap64 (2 + (wrap64 (Int.tmod a2 5))))) bt581.2.2 false (Int.tmod (wrap64 (a3_0)) (wrap64 (2 + (wrap64 (Int.tmod a1 200))))) bt576.1 bt576.2 bt581.1 bt581.2.1)))))
theorem stratumlaw12_SpansMoves.mono_l : ∀ k, (∀ y0 y1 y2 y3 y4 y5 y6 y7 y8 y9 y10 y11, LeO (stratumlaw12_SpansMoves.l0 k y0 y1 y2 y3 y4 y5 y6 y7 y8 y9 y10 y11) (stratumlaw12_SpansMoves.l0 (k + 1) y0 y1 y2 y3 y4 y5 y6 y7 y8 y9 y10 y11)) ∧ (∀ y0 y1 y2 y3 y4 y5 y6 y7 y8 y9 y10, LeO (stratumlaw12_SpansMoves.l1 k y0 y1 y2 y3 y4 y5 y6 y7 y8 y9 y10) (stratumlaw12_SpansMoves.l1 (k + 1) y0 y1 y2 y3 y4 y5 y6 y7 y8 y9 y10)) ∧ (∀ y0 y1 y2 y3 y4 y5 y6 y7 y8 y9 y10 y11 y12, LeO (stratumlaw12_SpansMoves.j2 k y0 y1 y2 y3 y4 y5 y6 y7 y8 y9 y10 y11 y12) (stratumlaw12_SpansMoves.j2 (k + 1) y0 y1 y2 y3 y4 y5 y6 y7 y8 y9 y10 y11 y12))
  | 0 => ⟨fun _ _ _ _ _ _ _ _ _ _ _ _ r h => by simp [stratumlaw12_SpansMoves.l0] at h, fun _ _ _ _ _ _ _ _ _ _ _ r h => by simp [stratumlaw12_SpansMoves.l1] at h, fun _ _ _ _ _ _ _ _ _ _ _ _ _ r h => by simp [stratumlaw12_SpansMoves.j2] at h⟩
  | k + 1 => by
    obtain ⟨ih0, ih1, ih2⟩ := stratumlaw12_SpansMoves.mono_l k
    refine ⟨?_, ?_, ?_⟩
    · intro y0 y1 y2 y3 y4 y5 y6 y7 y8 y9 y10 y11
      unfold stratumlaw12_SpansMoves.l0
      repeat' first
      | (with_reducible exact ih0 _ _ _ _ _ _ _ _ _ _ _ _)
      | (with_reducible exact ih1 _ _ _ _ _ _ _ _ _ _ _)
      | (with_reducible exact ih2 _ _ _ _ _ _ _ _ _ _ _ _ _)
      | (with_reducible exact spans_Sound.mono _ _ _ _ _)
      | (with_reducible exact spans_Split.mono _ _ _ _ _ _ _ _)
      | (with_reducible exact stratumlaw12_Of.mono _ _ _ _)
      | (with_reducible exact stratumlaw12_known.mono _)
      | (with_reducible exact LeO.refl _)
      | (with_reducible exact LeO.none _)
      | (with_reducible refine LeO.ite ?_ ?_)
      | (with_reducible refine LeO.bind ?_ (fun _ => ?_))
      | exact ih0 _ _ _ _ _ _ _ _ _ _ _ _
      | exact ih1 _ _ _ _ _ _ _ _ _ _ _
      | exact ih2 _ _ _ _ _ _ _ _ _ _ _ _ _
      | exact spans_Sound.mono _ _ _ _ _
      | exact spans_Split.mono _ _ _ _ _ _ _ _
      | exact stratumlaw12_Of.mono _ _ _ _
      | exact stratumlaw12_known.mono _
      | exact LeO.none _
      | refine LeO.ite ?_ ?_
      | refine LeO.bind ?_ (fun _ => ?_)
    · intro y0 y1 y2 y3 y4 y5 y6 y7 y8 y9 y10
      unfold stratumlaw12_SpansMoves.l1
      repeat' first
      | (with_reducible exact ih0 _ _ _ _ _ _ _ _ _ _ _ _)
      | (with_reducible exact ih1 _ _ _ _ _ _ _ _ _ _ _)
      | (with_reducible exact ih2 _ _ _ _ _ _ _ _ _ _ _ _ _)
      | (with_reducible exact spans_Sound.mono _ _ _ _ _)
      | (with_reducible exact spans_Split.mono _ _ _ _ _ _ _ _)
      | (with_reducible exact stratumlaw12_Of.mono _ _ _ _)
      | (with_reducible exact stratumlaw12_known.mono _)
      | (with_reducible exact LeO.refl _)
      | (with_reducible exact LeO.none _)
      | (with_reducible refine LeO.ite ?_ ?_)
      | (with_reducible refine LeO.bind ?_ (fun _ => ?_))
      | exact ih0 _ _ _ _ _ _ _ _ _ _ _ _
      | exact ih1 _ _ _ _ _ _ _ _ _ _ _
      | exact ih2 _ _ _ _ _ _ _ _ _ _ _ _ _
      | exact spans_Sound.mono _ _ _ _ _
      | exact spans_Split.mono _ _ _ _ _ _ _ _
      | exact stratumlaw12_Of.mono _ _ _ _
      | exact stratumlaw12_known.mono _
      | exact LeO.none _
      | refine LeO.ite ?_ ?_
      | refine LeO.bind ?_ (fun _ => ?_)
    · intro y0 y1 y2 y3 y4 y5 y6 y7 y8 y9 y10 y11 y12
      unfold stratumlaw12_SpansMoves.j2
      repeat' first
      | (with_reducible exact ih0 _ _ _ _ _ _ _ _ _ _ _ _)
      | (with_reducible exact ih1 _ _ _ _ _ _ _ _ _ _ _)
      | (with_reducible exact ih2 _ _ _ _ _ _ _ _ _ _ _ _ _)
      | (with_reducible exact spans_Sound.mono _ _ _ _ _)
      | (with_reducible exact spans_Split.mono _ _ _ _ _ _ _ _)
      | (with_reducible exact stratumlaw12_Of.mono _ _ _ _)
      | (with_reducible exact stratumlaw12_known.mono _)
      | (with_reducible exact LeO.refl _)
      | (with_reducible exact LeO.none _)
      | (with_reducible refine LeO.ite ?_ ?_)
      | (with_reducible refine LeO.bind ?_ (fun _ => ?_))
      | exact ih0 _ _ _ _ _ _ _ _ _ _ _ _
      | exact ih1 _ _ _ _ _ _ _ _ _ _ _
      | exact ih2 _ _ _ _ _ _ _ _ _ _ _ _ _
      | exact spans_Sound.mono _ _ _ _ _
      | exact spans_Split.mono _ _ _ _ _ _ _ _
      | exact stratumlaw12_Of.mono _ _ _ _
      | exact stratumlaw12_known.mono _
      | exact LeO.none _
      | refine LeO.ite ?_ ?_
      | refine LeO.bind ?_ (fun _ => ?_)
theorem stratumlaw12_SpansMoves.mono : ∀ a0 a1 a2 a3 a4 a5 k, LeO (stratumlaw12_SpansMoves.f k a0 a1 a2 a3 a4 a5) (stratumlaw12_SpansMoves.f (k + 1) a0 a1 a2 a3 a4 a5) := by
  intro a0 a1 a2 a3 a4 a5 k
  obtain ⟨ih0, ih1, ih2⟩ := stratumlaw12_SpansMoves.mono_l k
  unfold stratumlaw12_SpansMoves.f
  repeat' first
      | (with_reducible exact ih0 _ _ _ _ _ _ _ _ _ _ _ _)
      | (with_reducible exact ih1 _ _ _ _ _ _ _ _ _ _ _)
      | (with_reducible exact ih2 _ _ _ _ _ _ _ _ _ _ _ _ _)
      | (with_reducible exact spans_Sound.mono _ _ _ _ _)
      | (with_reducible exact spans_Split.mono _ _ _ _ _ _ _ _)
      | (with_reducible exact stratumlaw12_Of.mono _ _ _ _)
      | (with_reducible exact stratumlaw12_known.mono _)
      | (with_reducible exact LeO.refl _)
      | (with_reducible exact LeO.none _)
      | (with_reducible refine LeO.ite ?_ ?_)
      | (with_reducible refine LeO.bind ?_ (fun _ => ?_))
      | exact ih0 _ _ _ _ _ _ _ _ _ _ _ _
      | exact ih1 _ _ _ _ _ _ _ _ _ _ _
      | exact ih2 _ _ _ _ _ _ _ _ _ _ _ _ _
      | exact spans_Sound.mono _ _ _ _ _
      | exact spans_Split.mono _ _ _ _ _ _ _ _
      | exact stratumlaw12_Of.mono _ _ _ _
      | exact stratumlaw12_known.mono _
      | exact LeO.none _
      | refine LeO.ite ?_ ?_
      | refine LeO.bind ?_ (fun _ => ?_)
set_option maxHeartbeats 8000000 in
set_option maxRecDepth 100000 in
theorem stratumlaw12_SpansMoves.calls (k : Nat) (A0 : Option Addr) (c0 : Nat) (l0 : List (S55)) (a1 : Int) (a2 : Int) (a3_0 : Int) (a3_1 : Int) (a3_2 : Int) (r : Bool) (w : World) (hr0 : Kd.C k55 w A0 l0.length l0) (hc0 : l0.length ≤ c0) (h : stratumlaw12_SpansMoves.f k l0 a1 a2 a3_0 a3_1 a3_2 = some r) :
    Calls Try.prog 11 #[.slice A0 l0.length c0, .int .u16 a1, .int .u8 a2, .agg #[.int .u16 a3_0, .int .u16 a3_1, .int .u8 a3_2]] w fun e w' => e = .returned (.bool r) ∧ Below w.heap.size w w' := by
  have hu55 := Try.underlying55
  have hu42 := Try.underlying42
  have HR0 := iC.mk hr0
  have HC0 := iC.mk hc0
  clear hr0 hc0
  have HB := iC.mk (Below.refl w.heap.size w)
  have H : ((stratumlaw12_Of.f k (wrap64 (2 + (wrap64 (Int.tmod a1 200)))) (wrap64 (2 + (wrap64 (Int.tmod a2 5)))) l0).bind fun bt576 => (if (wrap64 (2 + (wrap64 (Int.tmod a1 200)))) = 0 then (none) else (if (wrap64 ((wrap64 (2 + (wrap64 (Int.tmod a1 200)))) - (Int.tmod (wrap64 (a3_0)) (wrap64 (2 + (wrap64 (Int.tmod a1 200))))))) = 0 then (none) else (if (wrap64 (2 + (wrap64 (Int.tmod a2 5)))) = 0 then (none) else ((spans_Split.f k bt576.1 bt576.2 (wrap64 (2 + (wrap64 (Int.tmod a1 200)))) (wrap64 (2 + (wrap64 (Int.tmod a2 5)))) (Int.tmod (wrap64 (a3_0)) (wrap64 (2 + (wrap64 (Int.tmod a1 200))))) (wrap64 ((wrap64 ((Int.tmod (wrap64 (a3_0)) (wrap64 (2 + (wrap64 (Int.tmod a1 200))))) + 1)) + (Int.tmod (wrap64 (a3_1)) (wrap64 ((wrap64 (2 + (wrap64 (Int.tmod a1 200)))) - (Int.tmod (wrap64 (a3_0)) (wrap64 (2 + (wrap64 (Int.tmod a1 200)))))))))) (Int.tmod (wrap64 (a3_2)) (wrap64 (2 + (wrap64 (Int.tmod a2 5)))))).bind fun bt581 => (stratumlaw12_SpansMoves.l0 k (wrap64 (2 + (wrap64 (Int.tmod a2 5)))) (wrap64 (2 + (wrap64 (Int.tmod a1 200)))) (Int.tmod (wrap64 (a3_0)) (wrap64 (2 + (wrap64 (Int.tmod a1 200))))) (wrap64 ((wrap64 ((Int.tmod (wrap64 (a3_0)) (wrap64 (2 + (wrap64 (Int.tmod a1 200))))) + 1)) + (Int.tmod (wrap64 (a3_1)) (wrap64 ((wrap64 (2 + (wrap64 (Int.tmod a1 200)))) - (Int.tmod (wrap64 (a3_0)) (wrap64 (2 + (wrap64 (Int.tmod a1 200)))))))))) (Int.tmod (wrap64 (a3_2)) (wrap64 (2 + (wrap64 (Int.tmod a2 5))))) bt581.2.2 false (Int.tmod (wrap64 (a3_0)) (wrap64 (2 + (wrap64 (Int.tmod a1 200))))) bt576.1 bt576.2 bt581.1 bt581.2.1)))))) = some r := h
  clear h
  replace H := Option.bind_eq_some_iff.mp H
  obtain ⟨⟨t576, t577⟩, A50, H⟩ := H
  replace H : (if (wrap64 (2 + (wrap64 (Int.tmod a1 200)))) = 0 then (none) else (if (wrap64 ((wrap64 (2 + (wrap64 (Int.tmod a1 200)))) - (Int.tmod (wrap64 (a3_0)) (wrap64 (2 + (wrap64 (Int.tmod a1 200))))))) = 0 then (none) else (if (wrap64 (2 + (wrap64 (Int.tmod a2 5)))) = 0 then (none) else ((spans_Split.f k t576 t577 (wrap64 (2 + (wrap64 (Int.tmod a1 200)))) (wrap64 (2 + (wrap64 (Int.tmod a2 5)))) (Int.tmod (wrap64 (a3_0)) (wrap64 (2 + (wrap64 (Int.tmod a1 200))))) (wrap64 ((wrap64 ((Int.tmod (wrap64 (a3_0)) (wrap64 (2 + (wrap64 (Int.tmod a1 200))))) + 1)) + (Int.tmod (wrap64 (a3_1)) (wrap64 ((wrap64 (2 + (wrap64 (Int.tmod a1 200)))) - (Int.tmod (wrap64 (a3_0)) (wrap64 (2 + (wrap64 (Int.tmod a1 200)))))))))) (Int.tmod (wrap64 (a3_2)) (wrap64 (2 + (wrap64 (Int.tmod a2 5)))))).bind fun bt581 => (stratumlaw12_SpansMoves.l0 k (wrap64 (2 + (wrap64 (Int.tmod a2 5)))) (wrap64 (2 + (wrap64 (Int.tmod a1 200)))) (Int.tmod (wrap64 (a3_0)) (wrap64 (2 + (wrap64 (Int.tmod a1 200))))) (wrap64 ((wrap64 ((Int.tmod (wrap64 (a3_0)) (wrap64 (2 + (wrap64 (Int.tmod a1 200))))) + 1)) + (Int.tmod (wrap64 (a3_1)) (wrap64 ((wrap64 (2 + (wrap64 (Int.tmod a1 200)))) - (Int.tmod (wrap64 (a3_0)) (wrap64 (2 + (wrap64 (Int.tmod a1 200)))))))))) (Int.tmod (wrap64 (a3_2)) (wrap64 (2 + (wrap64 (Int.tmod a2 5))))) bt581.2.2 false (Int.tmod (wrap64 (a3_0)) (wrap64 (2 + (wrap64 (Int.tmod a1 200))))) t576 t577 bt581.1 bt581.2.1))))) = some r := H
  have A5 := iC.mk A50
  clear A50
  by_cases c6 : (wrap64 (2 + (wrap64 (Int.tmod a1 200)))) = 0
  · rw [if_pos c6] at H
    exact absurd H (by simp)
  · rw [if_neg c6] at H
    have c6b0 : ((wrap64 (2 + (wrap64 (Int.tmod a1 200)))) == 0) = false := beq_eq_false_iff_ne.mpr c6
    have c6b1 : ((wrap64 (2 + (wrap64 (Int.tmod a1 200)))) != 0) = true := bne_iff_ne.mpr c6
    by_cases c7 : (wrap64 ((wrap64 (2 + (wrap64 (Int.tmod a1 200)))) - (Int.tmod (wrap64 (a3_0)) (wrap64 (2 + (wrap64 (Int.tmod a1 200))))))) = 0
    · rw [if_pos c7] at H
      exact absurd H (by simp)
    · rw [if_neg c7] at H
      have c7b0 : ((wrap64 ((wrap64 (2 + (wrap64 (Int.tmod a1 200)))) - (Int.tmod (wrap64 (a3_0)) (wrap64 (2 + (wrap64 (Int.tmod a1 200))))))) == 0) = false := beq_eq_false_iff_ne.mpr c7
      have c7b1 : ((wrap64 ((wrap64 (2 + (wrap64 (Int.tmod a1 200)))) - (Int.tmod (wrap64 (a3_0)) (wrap64 (2 + (wrap64 (Int.tmod a1 200))))))) != 0) = true := bne_iff_ne.mpr c7
      by_cases c8 : (wrap64 (2 + (wrap64 (Int.tmod a2 5)))) = 0
      · rw [if_pos c8] at H
        exact absurd H (by simp)
      · rw [if_neg c8] at H
        have c8b0 : ((wrap64 (2 + (wrap64 (Int.tmod a2 5)))) == 0) = false := beq_eq_false_iff_ne.mpr c8
        have c8b1 : ((wrap64 (2 + (wrap64 (Int.tmod a2 5)))) != 0) = true := bne_iff_ne.mpr c8
        replace H := Option.bind_eq_some_iff.mp H
        obtain ⟨⟨t581, t582, t585⟩, A90, H⟩ := H
        replace H : (stratumlaw12_SpansMoves.l0 k (wrap64 (2 + (wrap64 (Int.tmod a2 5)))) (wrap64 (2 + (wrap64 (Int.tmod a1 200)))) (Int.tmod (wrap64 (a3_0)) (wrap64 (2 + (wrap64 (Int.tmod a1 200))))) (wrap64 ((wrap64 ((Int.tmod (wrap64 (a3_0)) (wrap64 (2 + (wrap64 (Int.tmod a1 200))))) + 1)) + (Int.tmod (wrap64 (a3_1)) (wrap64 ((wrap64 (2 + (wrap64 (Int.tmod a1 200)))) - (Int.tmod (wrap64 (a3_0)) (wrap64 (2 + (wrap64 (Int.tmod a1 200)))))))))) (Int.tmod (wrap64 (a3_2)) (wrap64 (2 + (wrap64 (Int.tmod a2 5))))) t585 false (Int.tmod (wrap64 (a3_0)) (wrap64 (2 + (wrap64 (Int.tmod a1 200))))) t576 t577 t581 t582) = some r := H
        have A9 := iC.mk A90
        clear A90
        have H' := iC.mk H
        clear H
        go_enter Try.func11, Try.ntmps11
        go_wp2_with (first | ((with_reducible refine jE (N := 7) rfl ?_); (try (refine iV (by rfl) ?_; dsimp only)); refine jB ?hg (N := 7) ?hd (cs := #[.int .u16 a3_0, .int .u16 a3_1, .int .u8 a3_2]) (t := 55) ?hr ?_; (case hd => rfl); (case hg => rfl); (case hr => first | (go_simp; done) | (go_simp; rfl)); intro gb575 hg w10 hbox hb; have n0_ := iC.mk (iM hb_ hb); have n1_ := iC.mk (hbox); have n2_ := iC.mk ((by rw [hg]; exact (iP hb_) : w.heap.size ≤ gb575)); have n3_ := iC.mk ((by rw [hg]; exact (iP hb_) : w.heap.size ≤ gb575)); clear HB; have HB := n0_; have BK575 := n1_; have GW575 := n2_; have GE575 := n3_; clear n0_ n1_ n2_ n3_; clear hb hbox hg) | ((with_reducible refine iT (f := 24) rfl ?_); refine jG (some 32) rfl rfl Try.func24 (by kernel_rfl) rfl #[.int .i64 (wrap64 (2 + (wrap64 (Int.tmod a1 200)))), .int .i64 (wrap64 (2 + (wrap64 (Int.tmod a2 5)))), .slice A0 l0.length c0] rfl (by (try simp only [List.map_toArray, List.map_cons, List.map_nil]); first | done | rfl | (simp only [List.length_drop, List.length_take]; rfl)) ?_; (with_reducible refine (stratumlaw12_Of.calls k (wrap64 (2 + (wrap64 (Int.tmod a1 200)))) (wrap64 (2 + (wrap64 (Int.tmod a2 5)))) _ _ l0 t576 t577 _ ?side1 ?side2 A5.out).mono ?_); (case side1 => repeat (first | exact (Kd.C_below HR0.out HB.out) | (with_reducible refine Kd.C_alloc ?_ _) | (with_reducible refine Kd.C_drewN ?_ _) | (with_reducible refine Kd.C_drew ?_))); (case side2 => exact HC0.out); rintro e w11 ⟨v578, rfl, ho0, hb⟩; refine ⟨_, rfl, ?_⟩; have n0_ := iC.mk (Kd.R_lower ho0 (iP (by repeat (first | (with_reducible first | exact HB.out | apply iF | apply iD | apply iG | refine iE ?_ GE575.out) | exact HB.out)))); have n1_ := iC.mk (iL (g := gb575) (o := .cells #[.int .u16 a3_0, .int .u16 a3_1, .int .u8 a3_2] 55 (0, 0)) (bk_ BK575.out) hb); have n2_ := iC.mk (iM (by repeat (first | (with_reducible first | exact HB.out | apply iF | apply iD | apply iG | refine iE ?_ GE575.out) | exact HB.out)) hb); clear BK575; clear HB; have HO579 := n0_; have BK575 := n1_; have HB := n2_; clear n0_ n1_ n2_; (try clear hb); (try clear hb2); (try clear hk); (try clear hi); (try clear ho0)) | ((with_reducible refine jE (N := 11) rfl ?_); (try (refine iV (by rfl) ?_; dsimp only)); refine jB ?hg (N := 11) ?hd (cs := #[.int .u32 0, .slice none 0 0]) (t := 42) ?hr ?_; (case hd => rfl); (case hg => rfl); (case hr => first | (go_simp; done) | (go_simp; rfl)); intro gb580 hg w12 hbox hb; have n0_ := iC.mk (Kd.R_below (by (with_reducible repeat (first | apply Kd.R_alloc | apply Kd.R_drewN | apply Kd.R_drew)); exact HO579.out) hb); have n1_ := iC.mk (iL (g := gb575) (o := .cells #[.int .u16 a3_0, .int .u16 a3_1, .int .u8 a3_2] 55 (0, 0)) (bk_ BK575.out) hb); have n2_ := iC.mk (iM (by repeat (first | (with_reducible first | exact HB.out | apply iF | apply iD | apply iG | refine iE ?_ GE575.out) | exact HB.out)) hb); have n3_ := iC.mk (hbox); have n4_ := iC.mk ((by rw [hg]; exact (iP (by repeat (first | (with_reducible first | exact HB.out | apply iF | apply iD | apply iG | refine iE ?_ GE575.out) | exact HB.out))) : w.heap.size ≤ gb580)); have n5_ := iC.mk ((by rw [hg]; exact (iP (by repeat (first | (with_reducible first | exact HB.out | apply iF | apply iD | apply iG | refine iE ?_ GE575.out) | exact HB.out))) : w.heap.size ≤ gb580)); have n6_ := iC.mk ((by rw [hg]; exact Nat.ne_of_lt (jA (g := gb575) (o := .cells #[.int .u16 a3_0, .int .u16 a3_1, .int .u8 a3_2] 55 (0, 0)) (bk_ BK575.out)) : gb575 ≠ gb580)); have n7_ := iC.mk ((by rw [hg]; exact Nat.ne_of_gt (jA (g := gb575) (o := .cells #[.int .u16 a3_0, .int .u16 a3_1, .int .u8 a3_2] 55 (0, 0)) (bk_ BK575.out)) : gb580 ≠ gb575)); clear HO579; clear BK575; clear HB; have HO579 := n0_; have BK575 := n1_; have HB := n2_; have BK580 := n3_; have GW580 := n4_; have GE580 := n5_; have NB575_580 := n6_; have NB580_575 := n7_; clear n0_ n1_ n2_ n3_ n4_ n5_ n6_ n7_; clear hb hbox hg; have hnb13 := NB580_575.out; have hnc13 := NB575_580.out; have hcz14_0 : w12.cell? ⟨gb580, 0, none⟩ = some (.int .u32 0) := (iI BK580.out 0).trans rfl; have hcz14_1 : w12.cell? ⟨gb580, 1, none⟩ = some (.slice none 0 0) := (iI BK580.out 1).trans rfl; have hfz14_0 := iH BK580.out 0; have hfz14_1 := iH BK580.out 1; obtain ⟨Ao15, co15, eo15⟩ := Kd.R_slice HO579.out; subst eo15; have hcz16_0 : w12.cell? ⟨gb575, 0, none⟩ = some (.int .u16 a3_0) := (iI BK575.out 0).trans rfl; have hcz16_1 : w12.cell? ⟨gb575, 1, none⟩ = some (.int .u16 a3_1) := (iI BK575.out 1).trans rfl; have hcz16_2 : w12.cell? ⟨gb575, 2, none⟩ = some (.int .u8 a3_2) := (iI BK575.out 2).trans rfl; have hfz16_0 := iH BK575.out 0; have hfz16_1 := iH BK575.out 1; have hfz16_2 := iH BK575.out 2) | ((with_reducible refine iT (f := 30) rfl ?_); refine jG (some 60) rfl rfl Try.func30 (by kernel_rfl) rfl #[.agg #[.int .u32 t576, .slice Ao15 t577.length co15], .int .i64 (wrap64 (2 + (wrap64 (Int.tmod a1 200)))), .int .i64 (wrap64 (2 + (wrap64 (Int.tmod a2 5)))), .int .i64 (Int.tmod (wrap64 (a3_0)) (wrap64 (2 + (wrap64 (Int.tmod a1 200))))), .int .i64 (wrap64 ((wrap64 ((Int.tmod (wrap64 (a3_0)) (wrap64 (2 + (wrap64 (Int.tmod a1 200))))) + 1)) + (Int.tmod (wrap64 (a3_1)) (wrap64 ((wrap64 (2 + (wrap64 (Int.tmod a1 200)))) - (Int.tmod (wrap64 (a3_0)) (wrap64 (2 + (wrap64 (Int.tmod a1 200)))))))))), .int .i64 (Int.tmod (wrap64 (a3_2)) (wrap64 (2 + (wrap64 (Int.tmod a2 5)))))] rfl (by (try simp only [List.map_toArray, List.map_cons, List.map_nil]); first | done | rfl | (simp only [List.length_drop, List.length_take]; rfl)) ?_; (with_reducible refine (spans_Split.calls k t576 _ _ t577 (wrap64 (2 + (wrap64 (Int.tmod a1 200)))) (wrap64 (2 + (wrap64 (Int.tmod a2 5)))) (Int.tmod (wrap64 (a3_0)) (wrap64 (2 + (wrap64 (Int.tmod a1 200))))) (wrap64 ((wrap64 ((Int.tmod (wrap64 (a3_0)) (wrap64 (2 + (wrap64 (Int.tmod a1 200))))) + 1)) + (Int.tmod (wrap64 (a3_1)) (wrap64 ((wrap64 (2 + (wrap64 (Int.tmod a1 200)))) - (Int.tmod (wrap64 (a3_0)) (wrap64 (2 + (wrap64 (Int.tmod a1 200)))))))))) (Int.tmod (wrap64 (a3_2)) (wrap64 (2 + (wrap64 (Int.tmod a2 5))))) t581 t582 t585 _ ?side1 ?side2 A9.out).mono ?_); (case side1 => refine (Kd.R_reads' (e := 60) (base := w.heap.size) (ok := fun k_ => True) (n := t577.length) (c := co15) ?_).2.2; exact (by (with_reducible repeat (first | apply Kd.R_alloc | apply Kd.R_drewN | apply Kd.R_drew)); exact (Kd.R_mono (Kd.R_far (p := ⟨gb580, 1, none⟩) (Kd.R_far (p := ⟨gb580, 0, none⟩) (Kd.R_types HO579.out BK580.out (by decide)) (fun _ hk => hk.2) (.int .u32 t576)) (fun _ hk => hk.2) (.slice Ao15 t577.length co15)) (fun _ h_ => h_.1)))); (case side2 => exact (Kd.R_reads' HO579.out).2.1); rintro e w17 ⟨v583, rfl, ho0, hb⟩; refine ⟨_, rfl, ?_⟩; have n0_ := iC.mk (Kd.R_elder' (by (with_reducible repeat (first | apply Kd.R_alloc | apply Kd.R_drewN | apply Kd.R_drew)); exact (Kd.R_mono (Kd.R_far (p := ⟨gb580, 1, none⟩) (Kd.R_far (p := ⟨gb580, 0, none⟩) (Kd.R_types HO579.out BK580.out (by decide)) (fun _ hk => hk.2) (.int .u32 t576)) (fun _ hk => hk.2) (.slice Ao15 t577.length co15)) (fun _ h_ => h_.1))) (Kd.R_base ho0) hb); have n1_ := iC.mk (Kd.R_lower (Kd.R_new' ho0 (Kd.R_lt (by (with_reducible repeat (first | apply Kd.R_alloc | apply Kd.R_drewN | apply Kd.R_drew)); exact (Kd.R_mono (Kd.R_far (p := ⟨gb580, 1, none⟩) (Kd.R_far (p := ⟨gb580, 0, none⟩) (Kd.R_types HO579.out BK580.out (by decide)) (fun _ hk => hk.2) (.int .u32 t576)) (fun _ hk => hk.2) (.slice Ao15 t577.length co15)) (fun _ h_ => h_.1))))) (iP (by repeat (first | (with_reducible first | exact HB.out | apply iF | apply iD | apply iG | refine iE ?_ GE575.out | refine iE ?_ GE580.out) | exact HB.out)))); have n2_ := iC.mk (iL (g := gb575) (o := .cells #[.int .u16 a3_0, .int .u16 a3_1, .int .u8 a3_2] 55 (0, 0)) (by (with_reducible repeat (first | refine iK ?_ _ | refine iO ?_ | refine iJ ?_ _)); refine jD ?_ NB575_580.out _; (with_reducible repeat (first | refine iK ?_ _ | refine iO ?_ | refine iJ ?_ _)); refine jD ?_ NB575_580.out _; (with_reducible repeat (first | refine iK ?_ _ | refine iO ?_ | refine iJ ?_ _)); exact BK575.out) hb); have n3_ := iC.mk (iL (g := gb580) (o := .cells #[.int .u32 t576, .slice Ao15 t577.length co15] 42 (0, 0)) (by (with_reducible repeat (first | refine iK ?_ _ | refine iO ?_ | refine iJ ?_ _)); refine jC (cs := #[.int .u32 t576, .slice none 0 0]) ?_ 1 _ rfl; (with_reducible repeat (first | refine iK ?_ _ | refine iO ?_ | refine iJ ?_ _)); refine jC (cs := #[.int .u32 0, .slice none 0 0]) ?_ 0 _ rfl; (with_reducible repeat (first | refine iK ?_ _ | refine iO ?_ | refine iJ ?_ _)); exact BK580.out) hb); have n4_ := iC.mk (iM (by repeat (first | (with_reducible first | exact HB.out | apply iF | apply iD | apply iG | refine iE ?_ GE575.out | refine iE ?_ GE580.out) | exact HB.out)) hb); clear HO579; clear BK575; clear BK580; clear HB; have HO579 := n0_; have HO584 := n1_; have BK575 := n2_; have BK580 := n3_; have HB := n4_; clear n0_ n1_ n2_ n3_ n4_; (try clear hb); (try clear hb2); (try clear hk); (try clear hi); (try clear ho0)) | ((with_reducible refine jE (N := 15) rfl ?_); (try (refine iV (by rfl) ?_; dsimp only)); refine jB ?hg (N := 15) ?hd (cs := #[.int .u32 0, .slice none 0 0]) (t := 42) ?hr ?_; (case hd => rfl); (case hg => rfl); (case hr => first | (go_simp; done) | (go_simp; rfl)); intro gb586 hg w18 hbox hb; have n0_ := iC.mk (Kd.R_below (by (with_reducible repeat (first | apply Kd.R_alloc | apply Kd.R_drewN | apply Kd.R_drew)); exact HO579.out) hb); have n1_ := iC.mk (Kd.R_below (by (with_reducible repeat (first | apply Kd.R_alloc | apply Kd.R_drewN | apply Kd.R_drew)); exact HO584.out) hb); have n2_ := iC.mk (iL (g := gb575) (o := .cells #[.int .u16 a3_0, .int .u16 a3_1, .int .u8 a3_2] 55 (0, 0)) (bk_ BK575.out) hb); have n3_ := iC.mk (iL (g := gb580) (o := .cells #[.int .u32 t576, .slice Ao15 t577.length co15] 42 (0, 0)) (bk_ BK580.out) hb); have n4_ := iC.mk (iM (by repeat (first | (with_reducible first | exact HB.out | apply iF | apply iD | apply iG | refine iE ?_ GE575.out | refine iE ?_ GE580.out) | exact HB.out)) hb); have n5_ := iC.mk (hbox); have n6_ := iC.mk ((by rw [hg]; exact (iP (by repeat (first | (with_reducible first | exact HB.out | apply iF | apply iD | apply iG | refine iE ?_ GE575.out | refine iE ?_ GE580.out) | exact HB.out))) : w.heap.size ≤ gb586)); have n7_ := iC.mk ((by rw [hg]; exact (iP (by repeat (first | (with_reducible first | exact HB.out | apply iF | apply iD | apply iG | refine iE ?_ GE575.out | refine iE ?_ GE580.out) | exact HB.out))) : w.heap.size ≤ gb586)); have n8_ := iC.mk ((by rw [hg]; exact Nat.ne_of_lt (jA (g := gb575) (o := .cells #[.int .u16 a3_0, .int .u16 a3_1, .int .u8 a3_2] 55 (0, 0)) (bk_ BK575.out)) : gb575 ≠ gb586)); have n9_ := iC.mk ((by rw [hg]; exact Nat.ne_of_gt (jA (g := gb575) (o := .cells #[.int .u16 a3_0, .int .u16 a3_1, .int .u8 a3_2] 55 (0, 0)) (bk_ BK575.out)) : gb586 ≠ gb575)); have n10_ := iC.mk ((by rw [hg]; exact Nat.ne_of_lt (jA (g := gb580) (o := .cells #[.int .u32 t576, .slice Ao15 t577.length co15] 42 (0, 0)) (bk_ BK580.out)) : gb580 ≠ gb586)); have n11_ := iC.mk ((by rw [hg]; exact Nat.ne_of_gt (jA (g := gb580) (o := .cells #[.int .u32 t576, .slice Ao15 t577.length co15] 42 (0, 0)) (bk_ BK580.out)) : gb586 ≠ gb580)); clear HO579; clear HO584; clear BK575; clear BK580; clear HB; have HO579 := n0_; have HO584 := n1_; have BK575 := n2_; have BK580 := n3_; have HB := n4_; have BK586 := n5_; have GW586 := n6_; have GE586 := n7_; have NB575_586 := n8_; have NB586_575 := n9_; have NB580_586 := n10_; have NB586_580 := n11_; clear n0_ n1_ n2_ n3_ n4_ n5_ n6_ n7_ n8_ n9_ n10_ n11_; clear hb hbox hg; have hnb19 := NB586_575.out; have hnc19 := NB575_586.out; have hnb20 := NB586_580.out; have hnc20 := NB580_586.out; have hcz21_0 : w18.cell? ⟨gb586, 0, none⟩ = some (.int .u32 0) := (iI BK586.out 0).trans rfl; have hcz21_1 : w18.cell? ⟨gb586, 1, none⟩ = some (.slice none 0 0) := (iI BK586.out 1).trans rfl; have hfz21_0 := iH BK586.out 0; have hfz21_1 := iH BK586.out 1; obtain ⟨Ao22, co22, eo22⟩ := Kd.R_slice HO584.out; subst eo22))
        go_loopg [17, 18] k (fun kq v17 v18 w' => ∃ (x17_1 : Bool) (x18_1 : Int), v17 = .bool x17_1 ∧ v18 = .int .i64 x18_1 ∧ iC (stratumlaw12_SpansMoves.l0 kq (wrap64 (2 + (wrap64 (Int.tmod a2 5)))) (wrap64 (2 + (wrap64 (Int.tmod a1 200)))) (Int.tmod (wrap64 (a3_0)) (wrap64 (2 + (wrap64 (Int.tmod a1 200))))) (wrap64 ((wrap64 ((Int.tmod (wrap64 (a3_0)) (wrap64 (2 + (wrap64 (Int.tmod a1 200))))) + 1)) + (Int.tmod (wrap64 (a3_1)) (wrap64 ((wrap64 (2 + (wrap64 (Int.tmod a1 200)))) - (Int.tmod (wrap64 (a3_0)) (wrap64 (2 + (wrap64 (Int.tmod a1 200)))))))))) (Int.tmod (wrap64 (a3_2)) (wrap64 (2 + (wrap64 (Int.tmod a2 5))))) t585 x17_1 x18_1 t576 t577 t581 t582 = some r) ∧ iC (kq ≤ k) ∧ iC (Kd.R k60 60 w' w.heap.size (fun k_ => some k_ ≠ ((.slice Ao22 t582.length co22) : Value).ownBlock) (.slice Ao15 t577.length co15) t577) ∧ iC (Kd.R k60 60 w' w.heap.size (fun k_ => some k_ ≠ ((.slice Ao15 t577.length co15) : Value).ownBlock) (.slice Ao22 t582.length co22) t582) ∧ iC (w'.heap[gb575]? = some (.cells #[.int .u16 a3_0, .int .u16 a3_1, .int .u8 a3_2] 55 (0, 0))) ∧ iC (w'.heap[gb580]? = some (.cells #[.int .u32 t576, (.slice Ao15 t577.length co15)] 42 (0, 0))) ∧ iC (w'.heap[gb586]? = some (.cells #[.int .u32 t581, (.slice Ao22 t582.length co22)] 42 (0, 0))) ∧ iC (Below w.heap.size w w'))
        case atStart => exact ⟨(false), (Int.tmod (wrap64 (a3_0)) (wrap64 (2 + (wrap64 (Int.tmod a1 200))))), (by first | rfl | (simp; done) | (simp [*]; done)), (by first | rfl | (simp; done) | (simp [*]; done)), H', ⟨Nat.le_refl _⟩, ⟨by (with_reducible repeat (first | apply Kd.R_alloc | apply Kd.R_drewN | apply Kd.R_drew)); exact Kd.R_mono (Kd.R_far (p := ⟨gb586, 1, none⟩) (Kd.R_far (p := ⟨gb586, 0, none⟩) (Kd.R_types HO579.out BK586.out (by decide)) (fun _ hk => hk.2) (.int .u32 t581)) (fun _ hk => hk.2) (.slice Ao22 t582.length co22)) (fun _ hk => hk.1.2)⟩, ⟨by (with_reducible repeat (first | apply Kd.R_alloc | apply Kd.R_drewN | apply Kd.R_drew)); exact Kd.R_mono (Kd.R_far (p := ⟨gb586, 1, none⟩) (Kd.R_far (p := ⟨gb586, 0, none⟩) (Kd.R_types HO584.out BK586.out (by decide)) (fun _ hk => hk.2) (.int .u32 t581)) (fun _ hk => hk.2) (.slice Ao22 t582.length co22)) (fun _ hk => hk.1.2)⟩, ⟨by (with_reducible repeat (first | refine iK ?_ _ | refine iO ?_ | refine iJ ?_ _)); refine jD ?_ NB575_586.out _; (with_reducible repeat (first | refine iK ?_ _ | refine iO ?_ | refine iJ ?_ _)); refine jD ?_ NB575_586.out _; (with_reducible repeat (first | refine iK ?_ _ | refine iO ?_ | refine iJ ?_ _)); exact BK575.out⟩, ⟨by (with_reducible repeat (first | refine iK ?_ _ | refine iO ?_ | refine iJ ?_ _)); refine jD ?_ NB580_586.out _; (with_reducible repeat (first | refine iK ?_ _ | refine iO ?_ | refine iJ ?_ _)); refine jD ?_ NB580_586.out _; (with_reducible repeat (first | refine iK ?_ _ | refine iO ?_ | refine iJ ?_ _)); exact BK580.out⟩, ⟨by (with_reducible repeat (first | refine iK ?_ _ | refine iO ?_ | refine iJ ?_ _)); refine jC (cs := #[.int .u32 t581, .slice none 0 0]) ?_ 1 _ rfl; (with_reducible repeat (first | refine iK ?_ _ | refine iO ?_ | refine iJ ?_ _)); refine jC (cs := #[.int .u32 0, .slice none 0 0]) ?_ 0 _ rfl; (with_reducible repeat (first | refine iK ?_ _ | refine iO ?_ | refine iJ ?_ _)); exact BK586.out⟩, ⟨by repeat (first | (with_reducible first | exact HB.out | apply iF | apply iD | apply iG | refine iE ?_ GE575.out | refine iE ?_ GE580.out | refine iE ?_ GE586.out) | exact HB.out)⟩⟩
        case round =>
          clear H'
          try clear c1
          try clear c2
          try clear p2
          try clear c3
          try clear c6
          try clear c6b0
          try clear c6b1
          try clear p6
          try clear c7
          try clear c7b0
          try clear c7b1
          try clear c8
          try clear c8b0
          try clear c8b1
          try clear c11
          try clear c13
          try clear c19
          try clear c20
          try clear hcz14_0
          try clear hcz14_1
          try clear hcz16_0
          try clear hcz16_1
          try clear hcz16_2
          try clear hcz21_0
          try clear hcz21_1
          try clear hfz14_0
          try clear hfz14_1
          try clear hfz16_0
          try clear hfz16_1
          try clear hfz16_2
          try clear hfz21_0
          try clear hfz21_1
          obtain ⟨x17_1, x18_1, rfl, rfl, HA, HK1, HO_581001, HO_587001, BK575, BK580, BK586, HB⟩ := hrel
          cases gk with
          | zero => exact absurd HA.out (by simp [stratumlaw12_SpansMoves.l0])
          | succ k1 =>
            have H := HA.out
            clear HA
            simp only [stratumlaw12_SpansMoves.l0] at H
            by_cases c23 : x18_1 < (wrap64 ((wrap64 ((Int.tmod (wrap64 (a3_0)) (wrap64 (2 + (wrap64 (Int.tmod a1 200))))) + 1)) + (Int.tmod (wrap64 (a3_1)) (wrap64 ((wrap64 (2 + (wrap64 (Int.tmod a1 200)))) - (Int.tmod (wrap64 (a3_0)) (wrap64 (2 + (wrap64 (Int.tmod a1 200))))))))))
            · rw [if_pos c23] at H
              have c23b0 : decide (x18_1 < (wrap64 ((wrap64 ((Int.tmod (wrap64 (a3_0)) (wrap64 (2 + (wrap64 (Int.tmod a1 200))))) + 1)) + (Int.tmod (wrap64 (a3_1)) (wrap64 ((wrap64 (2 + (wrap64 (Int.tmod a1 200)))) - (Int.tmod (wrap64 (a3_0)) (wrap64 (2 + (wrap64 (Int.tmod a1 200))))))))))) = true := decide_eq_true c23
              clear c23
              by_cases c24 : x17_1 = true
              · subst c24
                have H1 : (stratumlaw12_SpansMoves.l0 k1 (wrap64 (2 + (wrap64 (Int.tmod a2 5)))) (wrap64 (2 + (wrap64 (Int.tmod a1 200)))) (Int.tmod (wrap64 (a3_0)) (wrap64 (2 + (wrap64 (Int.tmod a1 200))))) (wrap64 ((wrap64 ((Int.tmod (wrap64 (a3_0)) (wrap64 (2 + (wrap64 (Int.tmod a1 200))))) + 1)) + (Int.tmod (wrap64 (a3_1)) (wrap64 ((wrap64 (2 + (wrap64 (Int.tmod a1 200)))) - (Int.tmod (wrap64 (a3_0)) (wrap64 (2 + (wrap64 (Int.tmod a1 200)))))))))) (Int.tmod (wrap64 (a3_2)) (wrap64 (2 + (wrap64 (Int.tmod a2 5))))) t585 true (wrap64 (x18_1 + 1)) t576 t577 t581 t582) = some r := by rw [if_pos rfl] at H; exact H
                clear H
                have H := H1
                clear H1
                have H' := iC.mk H
                clear H
                go_wp2
                go_roundg k1
                case measure => have := HK1.out; omega
                case rel => exact ⟨(true), (wrap64 (x18_1 + 1)), (by first | rfl | (simp; done) | (simp [*]; done)), (by first | rfl | (simp; done) | (simp [*]; done)), H', ⟨by have := HK1.out; omega⟩, ⟨by (with_reducible repeat (first | apply Kd.R_alloc | apply Kd.R_drewN | apply Kd.R_drew)); exact HO_581001.out⟩, ⟨by (with_reducible repeat (first | apply Kd.R_alloc | apply Kd.R_drewN | apply Kd.R_drew)); exact HO_587001.out⟩, ⟨bk_ BK575.out⟩, ⟨bk_ BK580.out⟩, ⟨bk_ BK586.out⟩, ⟨by repeat (first | (with_reducible first | exact HB.out | apply iF | apply iD | apply iG | refine iE ?_ GE575.out | refine iE ?_ GE580.out | refine iE ?_ GE586.out) | exact HB.out)⟩⟩
              · replace c24 := Bool.eq_false_iff.mpr c24
                subst c24
                have H1 : ((spans_Find.f t576 t577 x18_1).bind fun t587 => (stratumlaw12_SpansMoves.l0 k1 (wrap64 (2 + (wrap64 (Int.tmod a2 5)))) (wrap64 (2 + (wrap64 (Int.tmod a1 200)))) (Int.tmod (wrap64 (a3_0)) (wrap64 (2 + (wrap64 (Int.tmod a1 200))))) (wrap64 ((wrap64 ((Int.tmod (wrap64 (a3_0)) (wrap64 (2 + (wrap64 (Int.tmod a1 200))))) + 1)) + (Int.tmod (wrap64 (a3_1)) (wrap64 ((wrap64 (2 + (wrap64 (Int.tmod a1 200)))) - (Int.tmod (wrap64 (a3_0)) (wrap64 (2 + (wrap64 (Int.tmod a1 200)))))))))) (Int.tmod (wrap64 (a3_2)) (wrap64 (2 + (wrap64 (Int.tmod a2 5))))) t585 (t587 != (Int.tmod (wrap64 (a3_2)) (wrap64 (2 + (wrap64 (Int.tmod a2 5)))))) (wrap64 (x18_1 + 1)) t576 t577 t581 t582)) = some r := by rw [if_neg (show ¬ (false = true) by decide)] at H; exact H
                clear H
                have H := H1
                clear H1
                replace H := Option.bind_eq_some_iff.mp H
                obtain ⟨t587, A250, H⟩ := H
                replace H : (stratumlaw12_SpansMoves.l0 k1 (wrap64 (2 + (wrap64 (Int.tmod a2 5)))) (wrap64 (2 + (wrap64 (Int.tmod a1 200)))) (Int.tmod (wrap64 (a3_0)) (wrap64 (2 + (wrap64 (Int.tmod a1 200))))) (wrap64 ((wrap64 ((Int.tmod (wrap64 (a3_0)) (wrap64 (2 + (wrap64 (Int.tmod a1 200))))) + 1)) + (Int.tmod (wrap64 (a3_1)) (wrap64 ((wrap64 (2 + (wrap64 (Int.tmod a1 200)))) - (Int.tmod (wrap64 (a3_0)) (wrap64 (2 + (wrap64 (Int.tmod a1 200)))))))))) (Int.tmod (wrap64 (a3_2)) (wrap64 (2 + (wrap64 (Int.tmod a2 5))))) t585 (t587 != (Int.tmod (wrap64 (a3_2)) (wrap64 (2 + (wrap64 (Int.tmod a2 5)))))) (wrap64 (x18_1 + 1)) t576 t577 t581 t582) = some r := H
                have A25 := iC.mk A250
                clear A250
                have H' := iC.mk H
                clear H
                have hnb26 := NB580_575.out
                have hnc26 := NB575_580.out
                have hnb27 := NB580_586.out
                have hnc27 := NB586_580.out
                have hcz28_0 : wr.cell? ⟨gb580, 0, none⟩ = some (.int .u32 t576) := (iI BK580.out 0).trans rfl
                have hcz28_1 : wr.cell? ⟨gb580, 1, none⟩ = some (.slice Ao15 t577.length co15) := (iI BK580.out 1).trans rfl
                have hfz28_0 := iH BK580.out 0
                have hfz28_1 := iH BK580.out 1
                go_wp2_with (first | (go_at_call 35; (with_reducible refine (spans_Find.calls t576 _ _ t577 x18_1 t587 _ ?side1 ?side2 A25.out).mono ?_); (case side1 => repeat (first | exact (Kd.R_reads' HO_581001.out).2.2 | (with_reducible refine Kd.C_alloc ?_ _) | (with_reducible refine Kd.C_drewN ?_ _) | (with_reducible refine Kd.C_drew ?_))); (case side2 => exact (Kd.R_reads' HO_581001.out).2.1); rintro e w29 ⟨rfl, hb⟩; have n0_ := iC.mk (Kd.R_below (by (with_reducible repeat (first | apply Kd.R_alloc | apply Kd.R_drewN | apply Kd.R_drew)); exact HO_581001.out) hb); have n1_ := iC.mk (Kd.R_below (by (with_reducible repeat (first | apply Kd.R_alloc | apply Kd.R_drewN | apply Kd.R_drew)); exact HO_587001.out) hb); have n2_ := iC.mk (iL (g := gb575) (o := .cells #[.int .u16 a3_0, .int .u16 a3_1, .int .u8 a3_2] 55 (0, 0)) (bk_ BK575.out) hb); have n3_ := iC.mk (iL (g := gb580) (o := .cells #[.int .u32 t576, .slice Ao15 t577.length co15] 42 (0, 0)) (bk_ BK580.out) hb); have n4_ := iC.mk (iL (g := gb586) (o := .cells #[.int .u32 t581, .slice Ao22 t582.length co22] 42 (0, 0)) (bk_ BK586.out) hb); have n5_ := iC.mk (iM (by repeat (first | (with_reducible first | exact HB.out | apply iF | apply iD | apply iG | refine iE ?_ GE575.out | refine iE ?_ GE580.out | refine iE ?_ GE586.out) | exact HB.out)) hb); clear HO_581001; clear HO_587001; clear BK575; clear BK580; clear BK586; clear HB; have HO_581001 := n0_; have HO_587001 := n1_; have BK575 := n2_; have BK580 := n3_; have BK586 := n4_; have HB := n5_; clear n0_ n1_ n2_ n3_ n4_ n5_; (try clear hb); (try clear hb2); (try clear hk); (try clear hi)))
                go_roundg k1
                case measure => have := HK1.out; omega
                case rel => exact ⟨((t587 != (Int.tmod (wrap64 (a3_2)) (wrap64 (2 + (wrap64 (Int.tmod a2 5))))))), (wrap64 (x18_1 + 1)), (by first | rfl | (simp; done) | (simp [*]; done)), (by first | rfl | (simp; done) | (simp [*]; done)), H', ⟨by have := HK1.out; omega⟩, ⟨by (with_reducible repeat (first | apply Kd.R_alloc | apply Kd.R_drewN | apply Kd.R_drew)); exact HO_581001.out⟩, ⟨by (with_reducible repeat (first | apply Kd.R_alloc | apply Kd.R_drewN | apply Kd.R_drew)); exact HO_587001.out⟩, ⟨bk_ BK575.out⟩, ⟨bk_ BK580.out⟩, ⟨bk_ BK586.out⟩, ⟨by repeat (first | (with_reducible first | exact HB.out | apply iF | apply iD | apply iG | refine iE ?_ GE575.out | refine iE ?_ GE580.out | refine iE ?_ GE586.out) | exact HB.out)⟩⟩
            · rw [if_neg c23] at H
              have c23b0 : decide (x18_1 < (wrap64 ((wrap64 ((Int.tmod (wrap64 (a3_0)) (wrap64 (2 + (wrap64 (Int.tmod a1 200))))) + 1)) + (Int.tmod (wrap64 (a3_1)) (wrap64 ((wrap64 (2 + (wrap64 (Int.tmod a1 200)))) - (Int.tmod (wrap64 (a3_0)) (wrap64 (2 + (wrap64 (Int.tmod a1 200))))))))))) = false := decide_eq_false c23
              clear c23
              by_cases c30 : t585 = 0
              · rw [if_pos c30] at H
                have c30b0 : (t585 == 0) = true := beq_iff_eq.mpr c30
                have c30b1 : (t585 != 0) = false := bne_eq_false_iff_eq.mpr c30
                clear c30
                have H' := iC.mk H
                clear H
                go_wp2
                go_loopg [19] k1 (fun kq v19 w' => ∃ (x19_2 : Int), v19 = .int .i64 x19_2 ∧ iC (stratumlaw12_SpansMoves.l1 kq (wrap64 (2 + (wrap64 (Int.tmod a2 5)))) (wrap64 (2 + (wrap64 (Int.tmod a1 200)))) (Int.tmod (wrap64 (a3_0)) (wrap64 (2 + (wrap64 (Int.tmod a1 200))))) (wrap64 ((wrap64 ((Int.tmod (wrap64 (a3_0)) (wrap64 (2 + (wrap64 (Int.tmod a1 200))))) + 1)) + (Int.tmod (wrap64 (a3_1)) (wrap64 ((wrap64 (2 + (wrap64 (Int.tmod a1 200)))) - (Int.tmod (wrap64 (a3_0)) (wrap64 (2 + (wrap64 (Int.tmod a1 200)))))))))) (Int.tmod (wrap64 (a3_2)) (wrap64 (2 + (wrap64 (Int.tmod a2 5))))) x17_1 x19_2 t576 t577 t581 t582 = some r) ∧ iC (kq ≤ k1) ∧ iC (Kd.R k60 60 w' w.heap.size (fun k_ => some k_ ≠ ((.slice Ao22 t582.length co22) : Value).ownBlock) (.slice Ao15 t577.length co15) t577) ∧ iC (Kd.R k60 60 w' w.heap.size (fun k_ => some k_ ≠ ((.slice Ao15 t577.length co15) : Value).ownBlock) (.slice Ao22 t582.length co22) t582) ∧ iC (w'.heap[gb575]? = some (.cells #[.int .u16 a3_0, .int .u16 a3_1, .int .u8 a3_2] 55 (0, 0))) ∧ iC (w'.heap[gb580]? = some (.cells #[.int .u32 t576, (.slice Ao15 t577.length co15)] 42 (0, 0))) ∧ iC (w'.heap[gb586]? = some (.cells #[.int .u32 t581, (.slice Ao22 t582.length co22)] 42 (0, 0))) ∧ iC (Below w.heap.size w w'))
                case atStart => exact ⟨(0), (by first | rfl | (simp; done) | (simp [*]; done)), H', ⟨Nat.le_refl _⟩, ⟨by (with_reducible repeat (first | apply Kd.R_alloc | apply Kd.R_drewN | apply Kd.R_drew)); exact HO_581001.out⟩, ⟨by (with_reducible repeat (first | apply Kd.R_alloc | apply Kd.R_drewN | apply Kd.R_drew)); exact HO_587001.out⟩, ⟨bk_ BK575.out⟩, ⟨bk_ BK580.out⟩, ⟨bk_ BK586.out⟩, ⟨by repeat (first | (with_reducible first | exact HB.out | apply iF | apply iD | apply iG | refine iE ?_ GE575.out | refine iE ?_ GE580.out | refine iE ?_ GE586.out) | exact HB.out)⟩⟩
                case round =>
                  clear H'
                  try clear c1
                  try clear c2
                  try clear p2
                  try clear c3
                  try clear c6
                  try clear c6b0
                  try clear c6b1
                  try clear p6
                  try clear c7
                  try clear c7b0
                  try clear c7b1
                  try clear c8
                  try clear c8b0
                  try clear c8b1
                  try clear c11
                  try clear c13
                  try clear c19
                  try clear c20
                  try clear c23
                  try clear c23b0
                  try clear c24
                  try clear c26
                  try clear c27
                  try clear c30
                  try clear c30b0
                  try clear c30b1
                  try clear hcz14_0
                  try clear hcz14_1
                  try clear hcz16_0
                  try clear hcz16_1
                  try clear hcz16_2
                  try clear hcz21_0
                  try clear hcz21_1
                  try clear hcz28_0
                  try clear hcz28_1
                  try clear hfz14_0
                  try clear hfz14_1
                  try clear hfz16_0
                  try clear hfz16_1
                  try clear hfz16_2
                  try clear hfz21_0
                  try clear hfz21_1
                  try clear hfz28_0
                  try clear hfz28_1
                  try clear p2
                  try clear p6
                  obtain ⟨x19_2, rfl, HA, HK2, HO_581001, HO_587001, BK575, BK580, BK586, HB⟩ := hrel
                  cases gk with
                  | zero => exact absurd HA.out (by simp [stratumlaw12_SpansMoves.l1])
                  | succ k2 =>
                    have H := HA.out
                    clear HA
                    simp only [stratumlaw12_SpansMoves.l1] at H
                    by_cases c31 : x19_2 < (wrap64 (2 + (wrap64 (Int.tmod a1 200))))
                    · rw [if_pos c31] at H
                      have c31b0 : decide (x19_2 < (wrap64 (2 + (wrap64 (Int.tmod a1 200))))) = true := decide_eq_true c31
                      clear c31
                      replace H := Option.bind_eq_some_iff.mp H
                      obtain ⟨t591, A320, H⟩ := H
                      replace H : (if x19_2 ≥ (Int.tmod (wrap64 (a3_0)) (wrap64 (2 + (wrap64 (Int.tmod a1 200))))) then (stratumlaw12_SpansMoves.j2 k2 (wrap64 (2 + (wrap64 (Int.tmod a2 5)))) (wrap64 (2 + (wrap64 (Int.tmod a1 200)))) (Int.tmod (wrap64 (a3_0)) (wrap64 (2 + (wrap64 (Int.tmod a1 200))))) (wrap64 ((wrap64 ((Int.tmod (wrap64 (a3_0)) (wrap64 (2 + (wrap64 (Int.tmod a1 200))))) + 1)) + (Int.tmod (wrap64 (a3_1)) (wrap64 ((wrap64 (2 + (wrap64 (Int.tmod a1 200)))) - (Int.tmod (wrap64 (a3_0)) (wrap64 (2 + (wrap64 (Int.tmod a1 200)))))))))) (Int.tmod (wrap64 (a3_2)) (wrap64 (2 + (wrap64 (Int.tmod a2 5))))) x17_1 x19_2 t591 (decide (x19_2 < (wrap64 ((wrap64 ((Int.tmod (wrap64 (a3_0)) (wrap64 (2 + (wrap64 (Int.tmod a1 200))))) + 1)) + (Int.tmod (wrap64 (a3_1)) (wrap64 ((wrap64 (2 + (wrap64 (Int.tmod a1 200)))) - (Int.tmod (wrap64 (a3_0)) (wrap64 (2 + (wrap64 (Int.tmod a1 200)))))))))))) t576 t577 t581 t582) else (stratumlaw12_SpansMoves.j2 k2 (wrap64 (2 + (wrap64 (Int.tmod a2 5)))) (wrap64 (2 + (wrap64 (Int.tmod a1 200)))) (Int.tmod (wrap64 (a3_0)) (wrap64 (2 + (wrap64 (Int.tmod a1 200))))) (wrap64 ((wrap64 ((Int.tmod (wrap64 (a3_0)) (wrap64 (2 + (wrap64 (Int.tmod a1 200))))) + 1)) + (Int.tmod (wrap64 (a3_1)) (wrap64 ((wrap64 (2 + (wrap64 (Int.tmod a1 200)))) - (Int.tmod (wrap64 (a3_0)) (wrap64 (2 + (wrap64 (Int.tmod a1 200)))))))))) (Int.tmod (wrap64 (a3_2)) (wrap64 (2 + (wrap64 (Int.tmod a2 5))))) x17_1 x19_2 t591 false t576 t577 t581 t582)) = some r := H
                      have A32 := iC.mk A320
                      clear A320
                      have HC33 := iC.mk H
                      clear H
                      have hnb34 := NB580_575.out
                      have hnc34 := NB575_580.out
                      have hnb35 := NB580_586.out
                      have hnc35 := NB586_580.out
                      have hcz36_0 : wr.cell? ⟨gb580, 0, none⟩ = some (.int .u32 t576) := (iI BK580.out 0).trans rfl
                      have hcz36_1 : wr.cell? ⟨gb580, 1, none⟩ = some (.slice Ao15 t577.length co15) := (iI BK580.out 1).trans rfl
                      have hfz36_0 := iH BK580.out 0
                      have hfz36_1 := iH BK580.out 1
                      go_upto_region 19 with (first | ((with_reducible refine iT (f := 35) rfl ?_); refine jG (some 105) rfl rfl Try.func35 (by kernel_rfl) rfl #[.agg #[.int .u32 t576, .slice Ao15 t577.length co15], .int .i64 x19_2] rfl (by (try simp only [List.map_toArray, List.map_cons, List.map_nil]); first | done | rfl | (simp only [List.length_drop, List.length_take]; rfl)) ?_; (with_reducible refine (spans_Find.calls t576 _ _ t577 x19_2 t591 _ ?side1 ?side2 A32.out).mono ?_); (case side1 => repeat (first | exact (Kd.R_reads' HO_581001.out).2.2 | (with_reducible refine Kd.C_alloc ?_ _) | (with_reducible refine Kd.C_drewN ?_ _) | (with_reducible refine Kd.C_drew ?_))); (case side2 => exact (Kd.R_reads' HO_581001.out).2.1); rintro e w37 ⟨rfl, hb⟩; refine ⟨_, rfl, ?_⟩; have n0_ := iC.mk (Kd.R_below (by (with_reducible repeat (first | apply Kd.R_alloc | apply Kd.R_drewN | apply Kd.R_drew)); exact HO_581001.out) hb); have n1_ := iC.mk (Kd.R_below (by (with_reducible repeat (first | apply Kd.R_alloc | apply Kd.R_drewN | apply Kd.R_drew)); exact HO_587001.out) hb); have n2_ := iC.mk (iL (g := gb575) (o := .cells #[.int .u16 a3_0, .int .u16 a3_1, .int .u8 a3_2] 55 (0, 0)) (bk_ BK575.out) hb); have n3_ := iC.mk (iL (g := gb580) (o := .cells #[.int .u32 t576, .slice Ao15 t577.length co15] 42 (0, 0)) (bk_ BK580.out) hb); have n4_ := iC.mk (iL (g := gb586) (o := .cells #[.int .u32 t581, .slice Ao22 t582.length co22] 42 (0, 0)) (bk_ BK586.out) hb); have n5_ := iC.mk (iM (by repeat (first | (with_reducible first | exact HB.out | apply iF | apply iD | apply iG | refine iE ?_ GE575.out | refine iE ?_ GE580.out | refine iE ?_ GE586.out) | exact HB.out)) hb); clear HO_581001; clear HO_587001; clear BK575; clear BK580; clear BK586; clear HB; have HO_581001 := n0_; have HO_587001 := n1_; have BK575 := n2_; have BK580 := n3_; have BK586 := n4_; have HB := n5_; clear n0_ n1_ n2_ n3_ n4_ n5_; (try clear hb); (try clear hb2); (try clear hk); (try clear hi)))
                      (try simp only [Act.put, List.setIfInBounds_toArray, List.set_cons_zero, List.set_cons_succ])
                      go_cut [113] (fun v113 wc => ∃ (kq : Nat) (x113_32 : Bool), v113 = .bool x113_32 ∧ iC (stratumlaw12_SpansMoves.j2 kq (wrap64 (2 + (wrap64 (Int.tmod a2 5)))) (wrap64 (2 + (wrap64 (Int.tmod a1 200)))) (Int.tmod (wrap64 (a3_0)) (wrap64 (2 + (wrap64 (Int.tmod a1 200))))) (wrap64 ((wrap64 ((Int.tmod (wrap64 (a3_0)) (wrap64 (2 + (wrap64 (Int.tmod a1 200))))) + 1)) + (Int.tmod (wrap64 (a3_1)) (wrap64 ((wrap64 (2 + (wrap64 (Int.tmod a1 200)))) - (Int.tmod (wrap64 (a3_0)) (wrap64 (2 + (wrap64 (Int.tmod a1 200)))))))))) (Int.tmod (wrap64 (a3_2)) (wrap64 (2 + (wrap64 (Int.tmod a2 5))))) x17_1 x19_2 t591 x113_32 t576 t577 t581 t582 = some r) ∧ iC (kq ≤ k2) ∧ iC (Kd.R k60 60 wc w.heap.size (fun k_ => some k_ ≠ ((.slice Ao22 t582.length co22) : Value).ownBlock) (.slice Ao15 t577.length co15) t577) ∧ iC (Kd.R k60 60 wc w.heap.size (fun k_ => some k_ ≠ ((.slice Ao15 t577.length co15) : Value).ownBlock) (.slice Ao22 t582.length co22) t582) ∧ iC (wc.heap[gb575]? = some (.cells #[.int .u16 a3_0, .int .u16 a3_1, .int .u8 a3_2] 55 (0, 0))) ∧ iC (wc.heap[gb580]? = some (.cells #[.int .u32 t576, (.slice Ao15 t577.length co15)] 42 (0, 0))) ∧ iC (wc.heap[gb586]? = some (.cells #[.int .u32 t581, (.slice Ao22 t582.length co22)] 42 (0, 0))) ∧ iC (Below w.heap.size w wc))
                      case first =>
                        have H := HC33.out
                        clear HC33
                        by_cases c38 : x19_2 ≥ (Int.tmod (wrap64 (a3_0)) (wrap64 (2 + (wrap64 (Int.tmod a1 200)))))
                        · rw [if_pos c38] at H
                          have c38b0 : decide ((Int.tmod (wrap64 (a3_0)) (wrap64 (2 + (wrap64 (Int.tmod a1 200))))) ≤ x19_2) = true := decide_eq_true c38
                          clear c38
                          (first | rw [c38b0] | (simp only [iW, iY]; rw [c38b0]) | skip)
                          have H' := iC.mk H
                          clear H
                          go_wp2
                          go_meet
                          case rel => exact ⟨_, (decide (x19_2 < (wrap64 ((wrap64 ((Int.tmod (wrap64 (a3_0)) (wrap64 (2 + (wrap64 (Int.tmod a1 200))))) + 1)) + (Int.tmod (wrap64 (a3_1)) (wrap64 ((wrap64 (2 + (wrap64 (Int.tmod a1 200)))) - (Int.tmod (wrap64 (a3_0)) (wrap64 (2 + (wrap64 (Int.tmod a1 200)))))))))))), (by first | rfl | (simp; done) | (simp [*]; done)), H', ⟨by have := HK1.out; have := HK2.out; first | omega | exact Nat.le_refl _⟩, ⟨by (with_reducible repeat (first | apply Kd.R_alloc | apply Kd.R_drewN | apply Kd.R_drew)); exact HO_581001.out⟩, ⟨by (with_reducible repeat (first | apply Kd.R_alloc | apply Kd.R_drewN | apply Kd.R_drew)); exact HO_587001.out⟩, ⟨bk_ BK575.out⟩, ⟨bk_ BK580.out⟩, ⟨bk_ BK586.out⟩, ⟨by repeat (first | (with_reducible first | exact HB.out | apply iF | apply iD | apply iG | refine iE ?_ GE575.out | refine iE ?_ GE580.out | refine iE ?_ GE586.out) | exact HB.out)⟩⟩
                        · rw [if_neg c38] at H
                          have c38b0 : decide ((Int.tmod (wrap64 (a3_0)) (wrap64 (2 + (wrap64 (Int.tmod a1 200))))) ≤ x19_2) = false := decide_eq_false c38
                          clear c38
                          (first | rw [c38b0] | (simp only [iW, iY]; rw [c38b0]) | skip)
                          have H' := iC.mk H
                          clear H
                          go_wp2
                          go_meet
                          case rel => exact ⟨_, (false), (by first | rfl | (simp; done) | (simp [*]; done)), H', ⟨by have := HK1.out; have := HK2.out; first | omega | exact Nat.le_refl _⟩, ⟨by (with_reducible repeat (first | apply Kd.R_alloc | apply Kd.R_drewN | apply Kd.R_drew)); exact HO_581001.out⟩, ⟨by (with_reducible repeat (first | apply Kd.R_alloc | apply Kd.R_drewN | apply Kd.R_drew)); exact HO_587001.out⟩, ⟨bk_ BK575.out⟩, ⟨bk_ BK580.out⟩, ⟨bk_ BK586.out⟩, ⟨by repeat (first | (with_reducible first | exact HB.out | apply iF | apply iD | apply iG | refine iE ?_ GE575.out | refine iE ?_ GE580.out | refine iE ?_ GE586.out) | exact HB.out)⟩⟩
                      case rest =>
                        clear HC33
                        try clear c1
                        try clear c2
                        try clear p2
                        try clear c3
                        try clear c6
                        try clear c6b0
                        try clear c6b1
                        try clear p6
                        try clear c7
                        try clear c7b0
                        try clear c7b1
                        try clear c8
                        try clear c8b0
                        try clear c8b1
                        try clear c11
                        try clear c13
                        try clear c19
                        try clear c20
                        try clear c23
                        try clear c23b0
                        try clear c24
                        try clear c26
                        try clear c27
                        try clear c30
                        try clear c30b0
                        try clear c30b1
                        try clear c31
                        try clear c31b0
                        try clear c34
                        try clear c35
                        try clear c38
                        try clear c38b0
                        try clear hcz14_0
                        try clear hcz14_1
                        try clear hcz16_0
                        try clear hcz16_1
                        try clear hcz16_2
                        try clear hcz21_0
                        try clear hcz21_1
                        try clear hcz28_0
                        try clear hcz28_1
                        try clear hcz36_0
                        try clear hcz36_1
                        try clear hfz14_0
                        try clear hfz14_1
                        try clear hfz16_0
                        try clear hfz16_1
                        try clear hfz16_2
                        try clear hfz21_0
                        try clear hfz21_1
                        try clear hfz28_0
                        try clear hfz28_1
                        try clear hfz36_0
                        try clear hfz36_1
                        try clear p2
                        try clear p6
                        obtain ⟨kq, x113_32, rfl, HA, HJ32, HO_581001, HO_587001, BK575, BK580, BK586, HB⟩ := hcut
                        cases kq with
                        | zero => exact absurd HA.out (by simp [stratumlaw12_SpansMoves.j2])
                        | succ kj32 =>
                          have H := HA.out
                          clear HA
                          simp only [stratumlaw12_SpansMoves.j2] at H
                          by_cases c39 : x113_32 = true
                          · subst c39
                            have H1 : ((spans_Find.f t581 t582 x19_2).bind fun t592 => (if t592 = (Int.tmod (wrap64 (a3_2)) (wrap64 (2 + (wrap64 (Int.tmod a2 5))))) then (stratumlaw12_SpansMoves.l1 kj32 (wrap64 (2 + (wrap64 (Int.tmod a2 5)))) (wrap64 (2 + (wrap64 (Int.tmod a1 200)))) (Int.tmod (wrap64 (a3_0)) (wrap64 (2 + (wrap64 (Int.tmod a1 200))))) (wrap64 ((wrap64 ((Int.tmod (wrap64 (a3_0)) (wrap64 (2 + (wrap64 (Int.tmod a1 200))))) + 1)) + (Int.tmod (wrap64 (a3_1)) (wrap64 ((wrap64 (2 + (wrap64 (Int.tmod a1 200)))) - (Int.tmod (wrap64 (a3_0)) (wrap64 (2 + (wrap64 (Int.tmod a1 200)))))))))) (Int.tmod (wrap64 (a3_2)) (wrap64 (2 + (wrap64 (Int.tmod a2 5))))) x17_1 (wrap64 (x19_2 + 1)) t576 t577 t581 t582) else (some false))) = some r := by rw [if_pos rfl] at H; exact H
                            clear H
                            have H := H1
                            clear H1
                            replace H := Option.bind_eq_some_iff.mp H
                            obtain ⟨t592, A400, H⟩ := H
                            replace H : (if t592 = (Int.tmod (wrap64 (a3_2)) (wrap64 (2 + (wrap64 (Int.tmod a2 5))))) then (stratumlaw12_SpansMoves.l1 kj32 (wrap64 (2 + (wrap64 (Int.tmod a2 5)))) (wrap64 (2 + (wrap64 (Int.tmod a1 200)))) (Int.tmod (wrap64 (a3_0)) (wrap64 (2 + (wrap64 (Int.tmod a1 200))))) (wrap64 ((wrap64 ((Int.tmod (wrap64 (a3_0)) (wrap64 (2 + (wrap64 (Int.tmod a1 200))))) + 1)) + (Int.tmod (wrap64 (a3_1)) (wrap64 ((wrap64 (2 + (wrap64 (Int.tmod a1 200)))) - (Int.tmod (wrap64 (a3_0)) (wrap64 (2 + (wrap64 (Int.tmod a1 200)))))))))) (Int.tmod (wrap64 (a3_2)) (wrap64 (2 + (wrap64 (Int.tmod a2 5))))) x17_1 (wrap64 (x19_2 + 1)) t576 t577 t581 t582) else (some false)) = some r := H
                            have A40 := iC.mk A400
                            clear A400
                            by_cases c41 : t592 = (Int.tmod (wrap64 (a3_2)) (wrap64 (2 + (wrap64 (Int.tmod a2 5)))))
                            · rw [if_pos c41] at H
                              have c41b0 : (t592 == (Int.tmod (wrap64 (a3_2)) (wrap64 (2 + (wrap64 (Int.tmod a2 5)))))) = true := beq_iff_eq.mpr c41
                              have c41b1 : (t592 != (Int.tmod (wrap64 (a3_2)) (wrap64 (2 + (wrap64 (Int.tmod a2 5)))))) = false := bne_eq_false_iff_eq.mpr c41
                              clear c41
                              have H' := iC.mk H
                              clear H
                              have hnb42 := NB586_575.out
                              have hnc42 := NB575_586.out
                              have hnb43 := NB586_580.out
                              have hnc43 := NB580_586.out
                              have hcz44_0 : wc.cell? ⟨gb586, 0, none⟩ = some (.int .u32 t581) := (iI BK586.out 0).trans rfl
                              have hcz44_1 : wc.cell? ⟨gb586, 1, none⟩ = some (.slice Ao22 t582.length co22) := (iI BK586.out 1).trans rfl
                              have hfz44_0 := iH BK586.out 0
                              have hfz44_1 := iH BK586.out 1
                              go_wp2_with (first | ((with_reducible refine iT (f := 35) rfl ?_); refine jG (some 117) rfl rfl Try.func35 (by kernel_rfl) rfl #[.agg #[.int .u32 t581, .slice Ao22 t582.length co22], .int .i64 x19_2] rfl (by (try simp only [List.map_toArray, List.map_cons, List.map_nil]); first | done | rfl | (simp only [List.length_drop, List.length_take]; rfl)) ?_; (with_reducible refine (spans_Find.calls t581 _ _ t582 x19_2 t592 _ ?side1 ?side2 A40.out).mono ?_); (case side1 => repeat (first | exact (Kd.R_reads' HO_587001.out).2.2 | (with_reducible refine Kd.C_alloc ?_ _) | (with_reducible refine Kd.C_drewN ?_ _) | (with_reducible refine Kd.C_drew ?_))); (case side2 => exact (Kd.R_reads' HO_587001.out).2.1); rintro e w45 ⟨rfl, hb⟩; refine ⟨_, rfl, ?_⟩; have n0_ := iC.mk (Kd.R_below (by (with_reducible repeat (first | apply Kd.R_alloc | apply Kd.R_drewN | apply Kd.R_drew)); exact HO_581001.out) hb); have n1_ := iC.mk (Kd.R_below (by (with_reducible repeat (first | apply Kd.R_alloc | apply Kd.R_drewN | apply Kd.R_drew)); exact HO_587001.out) hb); have n2_ := iC.mk (iL (g := gb575) (o := .cells #[.int .u16 a3_0, .int .u16 a3_1, .int .u8 a3_2] 55 (0, 0)) (bk_ BK575.out) hb); have n3_ := iC.mk (iL (g := gb580) (o := .cells #[.int .u32 t576, .slice Ao15 t577.length co15] 42 (0, 0)) (bk_ BK580.out) hb); have n4_ := iC.mk (iL (g := gb586) (o := .cells #[.int .u32 t581, .slice Ao22 t582.length co22] 42 (0, 0)) (bk_ BK586.out) hb); have n5_ := iC.mk (iM (by repeat (first | (with_reducible first | exact HB.out | apply iF | apply iD | apply iG | refine iE ?_ GE575.out | refine iE ?_ GE580.out | refine iE ?_ GE586.out) | exact HB.out)) hb); clear HO_581001; clear HO_587001; clear BK575; clear BK580; clear BK586; clear HB; have HO_581001 := n0_; have HO_587001 := n1_; have BK575 := n2_; have BK580 := n3_; have BK586 := n4_; have HB := n5_; clear n0_ n1_ n2_ n3_ n4_ n5_; (try clear hb); (try clear hb2); (try clear hk); (try clear hi)))
                              go_roundg kj32
                              case measure => have := HK1.out; have := HK2.out; have := HJ32.out; omega
                              case rel => exact ⟨(wrap64 (x19_2 + 1)), (by first | rfl | (simp; done) | (simp [*]; done)), H', ⟨by have := HK1.out; have := HK2.out; have := HJ32.out; omega⟩, ⟨by (with_reducible repeat (first | apply Kd.R_alloc | apply Kd.R_drewN | apply Kd.R_drew)); exact HO_581001.out⟩, ⟨by (with_reducible repeat (first | apply Kd.R_alloc | apply Kd.R_drewN | apply Kd.R_drew)); exact HO_587001.out⟩, ⟨bk_ BK575.out⟩, ⟨bk_ BK580.out⟩, ⟨bk_ BK586.out⟩, ⟨by repeat (first | (with_reducible first | exact HB.out | apply iF | apply iD | apply iG | refine iE ?_ GE575.out | refine iE ?_ GE580.out | refine iE ?_ GE586.out) | exact HB.out)⟩⟩
                            · rw [if_neg c41] at H
                              have c41b0 : (t592 == (Int.tmod (wrap64 (a3_2)) (wrap64 (2 + (wrap64 (Int.tmod a2 5)))))) = false := beq_eq_false_iff_ne.mpr c41
                              have c41b1 : (t592 != (Int.tmod (wrap64 (a3_2)) (wrap64 (2 + (wrap64 (Int.tmod a2 5)))))) = true := bne_iff_ne.mpr c41
                              obtain rfl := Option.some.inj H
                              have hnb46 := NB586_575.out
                              have hnc46 := NB575_586.out
                              have hnb47 := NB586_580.out
                              have hnc47 := NB580_586.out
                              have hcz48_0 : wc.cell? ⟨gb586, 0, none⟩ = some (.int .u32 t581) := (iI BK586.out 0).trans rfl
                              have hcz48_1 : wc.cell? ⟨gb586, 1, none⟩ = some (.slice Ao22 t582.length co22) := (iI BK586.out 1).trans rfl
                              have hfz48_0 := iH BK586.out 0
                              have hfz48_1 := iH BK586.out 1
                              go_wp2_with (first | ((with_reducible refine iT (f := 35) rfl ?_); refine jG (some 117) rfl rfl Try.func35 (by kernel_rfl) rfl #[.agg #[.int .u32 t581, .slice Ao22 t582.length co22], .int .i64 x19_2] rfl (by (try simp only [List.map_toArray, List.map_cons, List.map_nil]); first | done | rfl | (simp only [List.length_drop, List.length_take]; rfl)) ?_; (with_reducible refine (spans_Find.calls t581 _ _ t582 x19_2 t592 _ ?side1 ?side2 A40.out).mono ?_); (case side1 => repeat (first | exact (Kd.R_reads' HO_587001.out).2.2 | (with_reducible refine Kd.C_alloc ?_ _) | (with_reducible refine Kd.C_drewN ?_ _) | (with_reducible refine Kd.C_drew ?_))); (case side2 => exact (Kd.R_reads' HO_587001.out).2.1); rintro e w49 ⟨rfl, hb⟩; refine ⟨_, rfl, ?_⟩; have n0_ := iC.mk (Kd.R_below (by (with_reducible repeat (first | apply Kd.R_alloc | apply Kd.R_drewN | apply Kd.R_drew)); exact HO_581001.out) hb); have n1_ := iC.mk (Kd.R_below (by (with_reducible repeat (first | apply Kd.R_alloc | apply Kd.R_drewN | apply Kd.R_drew)); exact HO_587001.out) hb); have n2_ := iC.mk (iL (g := gb575) (o := .cells #[.int .u16 a3_0, .int .u16 a3_1, .int .u8 a3_2] 55 (0, 0)) (bk_ BK575.out) hb); have n3_ := iC.mk (iL (g := gb580) (o := .cells #[.int .u32 t576, .slice Ao15 t577.length co15] 42 (0, 0)) (bk_ BK580.out) hb); have n4_ := iC.mk (iL (g := gb586) (o := .cells #[.int .u32 t581, .slice Ao22 t582.length co22] 42 (0, 0)) (bk_ BK586.out) hb); have n5_ := iC.mk (iM (by repeat (first | (with_reducible first | exact HB.out | apply iF | apply iD | apply iG | refine iE ?_ GE575.out | refine iE ?_ GE580.out | refine iE ?_ GE586.out) | exact HB.out)) hb); clear HO_581001; clear HO_587001; clear BK575; clear BK580; clear BK586; clear HB; have HO_581001 := n0_; have HO_587001 := n1_; have BK575 := n2_; have BK580 := n3_; have BK586 := n4_; have HB := n5_; clear n0_ n1_ n2_ n3_ n4_ n5_; (try clear hb); (try clear hb2); (try clear hk); (try clear hi)))
                              go_ret
                              exact ⟨by first | rfl | (simp [iR, iQ] <;> rfl) | (simp [*, iR, iQ] <;> rfl), by repeat (first | (with_reducible first | exact HB.out | apply iF | apply iD | apply iG | refine iE ?_ GE575.out | refine iE ?_ GE580.out | refine iE ?_ GE586.out) | exact HB.out)⟩
                          · replace c39 := Bool.eq_false_iff.mpr c39
                            subst c39
                            have H1 : ((spans_Find.f t581 t582 x19_2).bind fun t593 => (if t593 = t591 then (stratumlaw12_SpansMoves.l1 kj32 (wrap64 (2 + (wrap64 (Int.tmod a2 5)))) (wrap64 (2 + (wrap64 (Int.tmod a1 200)))) (Int.tmod (wrap64 (a3_0)) (wrap64 (2 + (wrap64 (Int.tmod a1 200))))) (wrap64 ((wrap64 ((Int.tmod (wrap64 (a3_0)) (wrap64 (2 + (wrap64 (Int.tmod a1 200))))) + 1)) + (Int.tmod (wrap64 (a3_1)) (wrap64 ((wrap64 (2 + (wrap64 (Int.tmod a1 200)))) - (Int.tmod (wrap64 (a3_0)) (wrap64 (2 + (wrap64 (Int.tmod a1 200)))))))))) (Int.tmod (wrap64 (a3_2)) (wrap64 (2 + (wrap64 (Int.tmod a2 5))))) x17_1 (wrap64 (x19_2 + 1)) t576 t577 t581 t582) else (some false))) = some r := by rw [if_neg (show ¬ (false = true) by decide)] at H; exact H
                            clear H
                            have H := H1
                            clear H1
                            replace H := Option.bind_eq_some_iff.mp H
                            obtain ⟨t593, A500, H⟩ := H
                            replace H : (if t593 = t591 then (stratumlaw12_SpansMoves.l1 kj32 (wrap64 (2 + (wrap64 (Int.tmod a2 5)))) (wrap64 (2 + (wrap64 (Int.tmod a1 200)))) (Int.tmod (wrap64 (a3_0)) (wrap64 (2 + (wrap64 (Int.tmod a1 200))))) (wrap64 ((wrap64 ((Int.tmod (wrap64 (a3_0)) (wrap64 (2 + (wrap64 (Int.tmod a1 200))))) + 1)) + (Int.tmod (wrap64 (a3_1)) (wrap64 ((wrap64 (2 + (wrap64 (Int.tmod a1 200)))) - (Int.tmod (wrap64 (a3_0)) (wrap64 (2 + (wrap64 (Int.tmod a1 200)))))))))) (Int.tmod (wrap64 (a3_2)) (wrap64 (2 + (wrap64 (Int.tmod a2 5))))) x17_1 (wrap64 (x19_2 + 1)) t576 t577 t581 t582) else (some false)) = some r := H
                            have A50 := iC.mk A500
                            clear A500
                            by_cases c51 : t593 = t591
                            · rw [if_pos c51] at H
                              have c51b0 : (t593 == t591) = true := beq_iff_eq.mpr c51
                              have c51b1 : (t593 != t591) = false := bne_eq_false_iff_eq.mpr c51
                              clear c51
                              have H' := iC.mk H
                              clear H
                              have hnb52 := NB586_575.out
                              have hnc52 := NB575_586.out
                              have hnb53 := NB586_580.out
                              have hnc53 := NB580_586.out
                              have hcz54_0 : wc.cell? ⟨gb586, 0, none⟩ = some (.int .u32 t581) := (iI BK586.out 0).trans rfl
                              have hcz54_1 : wc.cell? ⟨gb586, 1, none⟩ = some (.slice Ao22 t582.length co22) := (iI BK586.out 1).trans rfl
                              have hfz54_0 := iH BK586.out 0
                              have hfz54_1 := iH BK586.out 1
                              go_wp2_with (first | ((with_reducible refine iT (f := 35) rfl ?_); refine jG (some 117) rfl rfl Try.func35 (by kernel_rfl) rfl #[.agg #[.int .u32 t581, .slice Ao22 t582.length co22], .int .i64 x19_2] rfl (by (try simp only [List.map_toArray, List.map_cons, List.map_nil]); first | done | rfl | (simp only [List.length_drop, List.length_take]; rfl)) ?_; (with_reducible refine (spans_Find.calls t581 _ _ t582 x19_2 t593 _ ?side1 ?side2 A50.out).mono ?_); (case side1 => repeat (first | exact (Kd.R_reads' HO_587001.out).2.2 | (with_reducible refine Kd.C_alloc ?_ _) | (with_reducible refine Kd.C_drewN ?_ _) | (with_reducible refine Kd.C_drew ?_))); (case side2 => exact (Kd.R_reads' HO_587001.out).2.1); rintro e w55 ⟨rfl, hb⟩; refine ⟨_, rfl, ?_⟩; have n0_ := iC.mk (Kd.R_below (by (with_reducible repeat (first | apply Kd.R_alloc | apply Kd.R_drewN | apply Kd.R_drew)); exact HO_581001.out) hb); have n1_ := iC.mk (Kd.R_below (by (with_reducible repeat (first | apply Kd.R_alloc | apply Kd.R_drewN | apply Kd.R_drew)); exact HO_587001.out) hb); have n2_ := iC.mk (iL (g := gb575) (o := .cells #[.int .u16 a3_0, .int .u16 a3_1, .int .u8 a3_2] 55 (0, 0)) (bk_ BK575.out) hb); have n3_ := iC.mk (iL (g := gb580) (o := .cells #[.int .u32 t576, .slice Ao15 t577.length co15] 42 (0, 0)) (bk_ BK580.out) hb); have n4_ := iC.mk (iL (g := gb586) (o := .cells #[.int .u32 t581, .slice Ao22 t582.length co22] 42 (0, 0)) (bk_ BK586.out) hb); have n5_ := iC.mk (iM (by repeat (first | (with_reducible first | exact HB.out | apply iF | apply iD | apply iG | refine iE ?_ GE575.out | refine iE ?_ GE580.out | refine iE ?_ GE586.out) | exact HB.out)) hb); clear HO_581001; clear HO_587001; clear BK575; clear BK580; clear BK586; clear HB; have HO_581001 := n0_; have HO_587001 := n1_; have BK575 := n2_; have BK580 := n3_; have BK586 := n4_; have HB := n5_; clear n0_ n1_ n2_ n3_ n4_ n5_; (try clear hb); (try clear hb2); (try clear hk); (try clear hi)))
                              go_roundg kj32
                              case measure => have := HK1.out; have := HK2.out; have := HJ32.out; omega
                              case rel => exact ⟨(wrap64 (x19_2 + 1)), (by first | rfl | (simp; done) | (simp [*]; done)), H', ⟨by have := HK1.out; have := HK2.out; have := HJ32.out; omega⟩, ⟨by (with_reducible repeat (first | apply Kd.R_alloc | apply Kd.R_drewN | apply Kd.R_drew)); exact HO_581001.out⟩, ⟨by (with_reducible repeat (first | apply Kd.R_alloc | apply Kd.R_drewN | apply Kd.R_drew)); exact HO_587001.out⟩, ⟨bk_ BK575.out⟩, ⟨bk_ BK580.out⟩, ⟨bk_ BK586.out⟩, ⟨by repeat (first | (with_reducible first | exact HB.out | apply iF | apply iD | apply iG | refine iE ?_ GE575.out | refine iE ?_ GE580.out | refine iE ?_ GE586.out) | exact HB.out)⟩⟩
                            · rw [if_neg c51] at H
                              have c51b0 : (t593 == t591) = false := beq_eq_false_iff_ne.mpr c51
                              have c51b1 : (t593 != t591) = true := bne_iff_ne.mpr c51
                              obtain rfl := Option.some.inj H
                              have hnb56 := NB586_575.out
                              have hnc56 := NB575_586.out
                              have hnb57 := NB586_580.out
                              have hnc57 := NB580_586.out
                              have hcz58_0 : wc.cell? ⟨gb586, 0, none⟩ = some (.int .u32 t581) := (iI BK586.out 0).trans rfl
                              have hcz58_1 : wc.cell? ⟨gb586, 1, none⟩ = some (.slice Ao22 t582.length co22) := (iI BK586.out 1).trans rfl
                              have hfz58_0 := iH BK586.out 0
                              have hfz58_1 := iH BK586.out 1
                              go_wp2_with (first | ((with_reducible refine iT (f := 35) rfl ?_); refine jG (some 117) rfl rfl Try.func35 (by kernel_rfl) rfl #[.agg #[.int .u32 t581, .slice Ao22 t582.length co22], .int .i64 x19_2] rfl (by (try simp only [List.map_toArray, List.map_cons, List.map_nil]); first | done | rfl | (simp only [List.length_drop, List.length_take]; rfl)) ?_; (with_reducible refine (spans_Find.calls t581 _ _ t582 x19_2 t593 _ ?side1 ?side2 A50.out).mono ?_); (case side1 => repeat (first | exact (Kd.R_reads' HO_587001.out).2.2 | (with_reducible refine Kd.C_alloc ?_ _) | (with_reducible refine Kd.C_drewN ?_ _) | (with_reducible refine Kd.C_drew ?_))); (case side2 => exact (Kd.R_reads' HO_587001.out).2.1); rintro e w59 ⟨rfl, hb⟩; refine ⟨_, rfl, ?_⟩; have n0_ := iC.mk (Kd.R_below (by (with_reducible repeat (first | apply Kd.R_alloc | apply Kd.R_drewN | apply Kd.R_drew)); exact HO_581001.out) hb); have n1_ := iC.mk (Kd.R_below (by (with_reducible repeat (first | apply Kd.R_alloc | apply Kd.R_drewN | apply Kd.R_drew)); exact HO_587001.out) hb); have n2_ := iC.mk (iL (g := gb575) (o := .cells #[.int .u16 a3_0, .int .u16 a3_1, .int .u8 a3_2] 55 (0, 0)) (bk_ BK575.out) hb); have n3_ := iC.mk (iL (g := gb580) (o := .cells #[.int .u32 t576, .slice Ao15 t577.length co15] 42 (0, 0)) (bk_ BK580.out) hb); have n4_ := iC.mk (iL (g := gb586) (o := .cells #[.int .u32 t581, .slice Ao22 t582.length co22] 42 (0, 0)) (bk_ BK586.out) hb); have n5_ := iC.mk (iM (by repeat (first | (with_reducible first | exact HB.out | apply iF | apply iD | apply iG | refine iE ?_ GE575.out | refine iE ?_ GE580.out | refine iE ?_ GE586.out) | exact HB.out)) hb); clear HO_581001; clear HO_587001; clear BK575; clear BK580; clear BK586; clear HB; have HO_581001 := n0_; have HO_587001 := n1_; have BK575 := n2_; have BK580 := n3_; have BK586 := n4_; have HB := n5_; clear n0_ n1_ n2_ n3_ n4_ n5_; (try clear hb); (try clear hb2); (try clear hk); (try clear hi)))
                              go_ret
                              exact ⟨by first | rfl | (simp [iR, iQ] <;> rfl) | (simp [*, iR, iQ] <;> rfl), by repeat (first | (with_reducible first | exact HB.out | apply iF | apply iD | apply iG | refine iE ?_ GE575.out | refine iE ?_ GE580.out | refine iE ?_ GE586.out) | exact HB.out)⟩
                    · rw [if_neg c31] at H
                      have c31b0 : decide (x19_2 < (wrap64 (2 + (wrap64 (Int.tmod a1 200))))) = false := decide_eq_false c31
                      clear c31
                      replace H := Option.bind_eq_some_iff.mp H
                      obtain ⟨t589, A600, H⟩ := H
                      replace H : (if t589 = true then (if x17_1 = true then ((spans_Sound.f k2 t581 t582 (wrap64 (2 + (wrap64 (Int.tmod a1 200)))) (wrap64 (2 + (wrap64 (Int.tmod a2 5))))).bind fun t590 => (if t590 = true then (some (t581 == ((t576 + 1) % 4294967296))) else (some false))) else (some false)) else (some false)) = some r := H
                      have A60 := iC.mk A600
                      clear A600
                      by_cases c61 : t589 = true
                      · subst c61
                        have H1 : (if x17_1 = true then ((spans_Sound.f k2 t581 t582 (wrap64 (2 + (wrap64 (Int.tmod a1 200)))) (wrap64 (2 + (wrap64 (Int.tmod a2 5))))).bind fun t590 => (if t590 = true then (some (t581 == ((t576 + 1) % 4294967296))) else (some false))) else (some false)) = some r := by rw [if_pos rfl] at H; exact H
                        clear H
                        have H := H1
                        clear H1
                        by_cases c62 : x17_1 = true
                        · subst c62
                          have H1 : ((spans_Sound.f k2 t581 t582 (wrap64 (2 + (wrap64 (Int.tmod a1 200)))) (wrap64 (2 + (wrap64 (Int.tmod a2 5))))).bind fun t590 => (if t590 = true then (some (t581 == ((t576 + 1) % 4294967296))) else (some false))) = some r := by rw [if_pos rfl] at H; exact H
                          clear H
                          have H := H1
                          clear H1
                          replace H := Option.bind_eq_some_iff.mp H
                          obtain ⟨t590, A630, H⟩ := H
                          replace H : (if t590 = true then (some (t581 == ((t576 + 1) % 4294967296))) else (some false)) = some r := H
                          have A63 := iC.mk A630
                          clear A630
                          by_cases c64 : t590 = true
                          · subst c64
                            have H1 : (some (t581 == ((t576 + 1) % 4294967296))) = some r := by rw [if_pos rfl] at H; exact H
                            clear H
                            have H := H1
                            clear H1
                            obtain rfl := Option.some.inj H
                            go_wp2_with (first | ((with_reducible refine iT (f := 29) rfl ?_); refine jG (some 120) rfl rfl Try.func29 (by kernel_rfl) rfl #[] rfl (by (try simp only [List.map_toArray, List.map_cons, List.map_nil]); first | done | rfl | (simp only [List.length_drop, List.length_take]; rfl)) ?_; (with_reducible refine (stratumlaw12_known.calls k2  true _ A60.out).mono ?_); rintro e w65 ⟨rfl, hb⟩; refine ⟨_, rfl, ?_⟩; have n0_ := iC.mk (Kd.R_below (by (with_reducible repeat (first | apply Kd.R_alloc | apply Kd.R_drewN | apply Kd.R_drew)); exact HO_581001.out) hb); have n1_ := iC.mk (Kd.R_below (by (with_reducible repeat (first | apply Kd.R_alloc | apply Kd.R_drewN | apply Kd.R_drew)); exact HO_587001.out) hb); have n2_ := iC.mk (iL (g := gb575) (o := .cells #[.int .u16 a3_0, .int .u16 a3_1, .int .u8 a3_2] 55 (0, 0)) (bk_ BK575.out) hb); have n3_ := iC.mk (iL (g := gb580) (o := .cells #[.int .u32 t576, .slice Ao15 t577.length co15] 42 (0, 0)) (bk_ BK580.out) hb); have n4_ := iC.mk (iL (g := gb586) (o := .cells #[.int .u32 t581, .slice Ao22 t582.length co22] 42 (0, 0)) (bk_ BK586.out) hb); have n5_ := iC.mk (iM (by repeat (first | (with_reducible first | exact HB.out | apply iF | apply iD | apply iG | refine iE ?_ GE575.out | refine iE ?_ GE580.out | refine iE ?_ GE586.out) | exact HB.out)) hb); clear HO_581001; clear HO_587001; clear BK575; clear BK580; clear BK586; clear HB; have HO_581001 := n0_; have HO_587001 := n1_; have BK575 := n2_; have BK580 := n3_; have BK586 := n4_; have HB := n5_; clear n0_ n1_ n2_ n3_ n4_ n5_; (try clear hb); (try clear hb2); (try clear hk); (try clear hi); have hnb66 := NB586_575.out; have hnc66 := NB575_586.out; have hnb67 := NB586_580.out; have hnc67 := NB580_586.out; have hcz68_0 : w65.cell? ⟨gb586, 0, none⟩ = some (.int .u32 t581) := (iI BK586.out 0).trans rfl; have hcz68_1 : w65.cell? ⟨gb586, 1, none⟩ = some (.slice Ao22 t582.length co22) := (iI BK586.out 1).trans rfl; have hfz68_0 := iH BK586.out 0; have hfz68_1 := iH BK586.out 1) | (go_at_call 33; (with_reducible refine (spans_Sound.calls k2 t581 _ _ t582 (wrap64 (2 + (wrap64 (Int.tmod a1 200)))) (wrap64 (2 + (wrap64 (Int.tmod a2 5)))) true _ ?side1 ?side2 A63.out).mono ?_); (case side1 => repeat (first | exact (Kd.R_reads' HO_587001.out).2.2 | (with_reducible refine Kd.C_alloc ?_ _) | (with_reducible refine Kd.C_drewN ?_ _) | (with_reducible refine Kd.C_drew ?_))); (case side2 => exact (Kd.R_reads' HO_587001.out).2.1); rintro e w69 ⟨rfl, hb⟩; have n0_ := iC.mk (Kd.R_below (by (with_reducible repeat (first | apply Kd.R_alloc | apply Kd.R_drewN | apply Kd.R_drew)); exact HO_581001.out) hb); have n1_ := iC.mk (Kd.R_below (by (with_reducible repeat (first | apply Kd.R_alloc | apply Kd.R_drewN | apply Kd.R_drew)); exact HO_587001.out) hb); have n2_ := iC.mk (iL (g := gb575) (o := .cells #[.int .u16 a3_0, .int .u16 a3_1, .int .u8 a3_2] 55 (0, 0)) (bk_ BK575.out) hb); have n3_ := iC.mk (iL (g := gb580) (o := .cells #[.int .u32 t576, .slice Ao15 t577.length co15] 42 (0, 0)) (bk_ BK580.out) hb); have n4_ := iC.mk (iL (g := gb586) (o := .cells #[.int .u32 t581, .slice Ao22 t582.length co22] 42 (0, 0)) (bk_ BK586.out) hb); have n5_ := iC.mk (iM (by repeat (first | (with_reducible first | exact HB.out | apply iF | apply iD | apply iG | refine iE ?_ GE575.out | refine iE ?_ GE580.out | refine iE ?_ GE586.out) | exact HB.out)) hb); clear HO_581001; clear HO_587001; clear BK575; clear BK580; clear BK586; clear HB; have HO_581001 := n0_; have HO_587001 := n1_; have BK575 := n2_; have BK580 := n3_; have BK586 := n4_; have HB := n5_; clear n0_ n1_ n2_ n3_ n4_ n5_; (try clear hb); (try clear hb2); (try clear hk); (try clear hi); have hcz70_0 : w69.cell? ⟨gb586, 0, none⟩ = some (.int .u32 t581) := (iI BK586.out 0).trans rfl; have hcz70_1 : w69.cell? ⟨gb586, 1, none⟩ = some (.slice Ao22 t582.length co22) := (iI BK586.out 1).trans rfl; have hfz70_0 := iH BK586.out 0; have hfz70_1 := iH BK586.out 1; have hnb71 := NB580_575.out; have hnc71 := NB575_580.out; have hcz72_0 : w69.cell? ⟨gb580, 0, none⟩ = some (.int .u32 t576) := (iI BK580.out 0).trans rfl; have hcz72_1 : w69.cell? ⟨gb580, 1, none⟩ = some (.slice Ao15 t577.length co15) := (iI BK580.out 1).trans rfl; have hfz72_0 := iH BK580.out 0; have hfz72_1 := iH BK580.out 1))
                            go_ret
                            exact ⟨by first | rfl | (simp [iR, iQ] <;> rfl) | (simp [*, iR, iQ] <;> rfl), by repeat (first | (with_reducible first | exact HB.out | apply iF | apply iD | apply iG | refine iE ?_ GE575.out | refine iE ?_ GE580.out | refine iE ?_ GE586.out) | exact HB.out)⟩
                          · replace c64 := Bool.eq_false_iff.mpr c64
                            subst c64
                            have H1 : (some false) = some r := by rw [if_neg (show ¬ (false = true) by decide)] at H; exact H
                            clear H
                            have H := H1
                            clear H1
                            obtain rfl := Option.some.inj H
                            go_wp2_with (first | ((with_reducible refine iT (f := 29) rfl ?_); refine jG (some 120) rfl rfl Try.func29 (by kernel_rfl) rfl #[] rfl (by (try simp only [List.map_toArray, List.map_cons, List.map_nil]); first | done | rfl | (simp only [List.length_drop, List.length_take]; rfl)) ?_; (with_reducible refine (stratumlaw12_known.calls k2  true _ A60.out).mono ?_); rintro e w73 ⟨rfl, hb⟩; refine ⟨_, rfl, ?_⟩; have n0_ := iC.mk (Kd.R_below (by (with_reducible repeat (first | apply Kd.R_alloc | apply Kd.R_drewN | apply Kd.R_drew)); exact HO_581001.out) hb); have n1_ := iC.mk (Kd.R_below (by (with_reducible repeat (first | apply Kd.R_alloc | apply Kd.R_drewN | apply Kd.R_drew)); exact HO_587001.out) hb); have n2_ := iC.mk (iL (g := gb575) (o := .cells #[.int .u16 a3_0, .int .u16 a3_1, .int .u8 a3_2] 55 (0, 0)) (bk_ BK575.out) hb); have n3_ := iC.mk (iL (g := gb580) (o := .cells #[.int .u32 t576, .slice Ao15 t577.length co15] 42 (0, 0)) (bk_ BK580.out) hb); have n4_ := iC.mk (iL (g := gb586) (o := .cells #[.int .u32 t581, .slice Ao22 t582.length co22] 42 (0, 0)) (bk_ BK586.out) hb); have n5_ := iC.mk (iM (by repeat (first | (with_reducible first | exact HB.out | apply iF | apply iD | apply iG | refine iE ?_ GE575.out | refine iE ?_ GE580.out | refine iE ?_ GE586.out) | exact HB.out)) hb); clear HO_581001; clear HO_587001; clear BK575; clear BK580; clear BK586; clear HB; have HO_581001 := n0_; have HO_587001 := n1_; have BK575 := n2_; have BK580 := n3_; have BK586 := n4_; have HB := n5_; clear n0_ n1_ n2_ n3_ n4_ n5_; (try clear hb); (try clear hb2); (try clear hk); (try clear hi); have hnb74 := NB586_575.out; have hnc74 := NB575_586.out; have hnb75 := NB586_580.out; have hnc75 := NB580_586.out; have hcz76_0 : w73.cell? ⟨gb586, 0, none⟩ = some (.int .u32 t581) := (iI BK586.out 0).trans rfl; have hcz76_1 : w73.cell? ⟨gb586, 1, none⟩ = some (.slice Ao22 t582.length co22) := (iI BK586.out 1).trans rfl; have hfz76_0 := iH BK586.out 0; have hfz76_1 := iH BK586.out 1) | (go_at_call 33; (with_reducible refine (spans_Sound.calls k2 t581 _ _ t582 (wrap64 (2 + (wrap64 (Int.tmod a1 200)))) (wrap64 (2 + (wrap64 (Int.tmod a2 5)))) false _ ?side1 ?side2 A63.out).mono ?_); (case side1 => repeat (first | exact (Kd.R_reads' HO_587001.out).2.2 | (with_reducible refine Kd.C_alloc ?_ _) | (with_reducible refine Kd.C_drewN ?_ _) | (with_reducible refine Kd.C_drew ?_))); (case side2 => exact (Kd.R_reads' HO_587001.out).2.1); rintro e w77 ⟨rfl, hb⟩; have n0_ := iC.mk (Kd.R_below (by (with_reducible repeat (first | apply Kd.R_alloc | apply Kd.R_drewN | apply Kd.R_drew)); exact HO_581001.out) hb); have n1_ := iC.mk (Kd.R_below (by (with_reducible repeat (first | apply Kd.R_alloc | apply Kd.R_drewN | apply Kd.R_drew)); exact HO_587001.out) hb); have n2_ := iC.mk (iL (g := gb575) (o := .cells #[.int .u16 a3_0, .int .u16 a3_1, .int .u8 a3_2] 55 (0, 0)) (bk_ BK575.out) hb); have n3_ := iC.mk (iL (g := gb580) (o := .cells #[.int .u32 t576, .slice Ao15 t577.length co15] 42 (0, 0)) (bk_ BK580.out) hb); have n4_ := iC.mk (iL (g := gb586) (o := .cells #[.int .u32 t581, .slice Ao22 t582.length co22] 42 (0, 0)) (bk_ BK586.out) hb); have n5_ := iC.mk (iM (by repeat (first | (with_reducible first | exact HB.out | apply iF | apply iD | apply iG | refine iE ?_ GE575.out | refine iE ?_ GE580.out | refine iE ?_ GE586.out) | exact HB.out)) hb); clear HO_581001; clear HO_587001; clear BK575; clear BK580; clear BK586; clear HB; have HO_581001 := n0_; have HO_587001 := n1_; have BK575 := n2_; have BK580 := n3_; have BK586 := n4_; have HB := n5_; clear n0_ n1_ n2_ n3_ n4_ n5_; (try clear hb); (try clear hb2); (try clear hk); (try clear hi)))
                            go_ret
                            exact ⟨by first | rfl | (simp [iR, iQ] <;> rfl) | (simp [*, iR, iQ] <;> rfl), by repeat (first | (with_reducible first | exact HB.out | apply iF | apply iD | apply iG | refine iE ?_ GE575.out | refine iE ?_ GE580.out | refine iE ?_ GE586.out) | exact HB.out)⟩
                        · replace c62 := Bool.eq_false_iff.mpr c62
                          subst c62
                          have H1 : (some false) = some r := by rw [if_neg (show ¬ (false = true) by decide)] at H; exact H
                          clear H
                          have H := H1
                          clear H1
                          obtain rfl := Option.some.inj H
                          go_wp2_with (first | ((with_reducible refine iT (f := 29) rfl ?_); refine jG (some 120) rfl rfl Try.func29 (by kernel_rfl) rfl #[] rfl (by (try simp only [List.map_toArray, List.map_cons, List.map_nil]); first | done | rfl | (simp only [List.length_drop, List.length_take]; rfl)) ?_; (with_reducible refine (stratumlaw12_known.calls k2  true _ A60.out).mono ?_); rintro e w78 ⟨rfl, hb⟩; refine ⟨_, rfl, ?_⟩; have n0_ := iC.mk (Kd.R_below (by (with_reducible repeat (first | apply Kd.R_alloc | apply Kd.R_drewN | apply Kd.R_drew)); exact HO_581001.out) hb); have n1_ := iC.mk (Kd.R_below (by (with_reducible repeat (first | apply Kd.R_alloc | apply Kd.R_drewN | apply Kd.R_drew)); exact HO_587001.out) hb); have n2_ := iC.mk (iL (g := gb575) (o := .cells #[.int .u16 a3_0, .int .u16 a3_1, .int .u8 a3_2] 55 (0, 0)) (bk_ BK575.out) hb); have n3_ := iC.mk (iL (g := gb580) (o := .cells #[.int .u32 t576, .slice Ao15 t577.length co15] 42 (0, 0)) (bk_ BK580.out) hb); have n4_ := iC.mk (iL (g := gb586) (o := .cells #[.int .u32 t581, .slice Ao22 t582.length co22] 42 (0, 0)) (bk_ BK586.out) hb); have n5_ := iC.mk (iM (by repeat (first | (with_reducible first | exact HB.out | apply iF | apply iD | apply iG | refine iE ?_ GE575.out | refine iE ?_ GE580.out | refine iE ?_ GE586.out) | exact HB.out)) hb); clear HO_581001; clear HO_587001; clear BK575; clear BK580; clear BK586; clear HB; have HO_581001 := n0_; have HO_587001 := n1_; have BK575 := n2_; have BK580 := n3_; have BK586 := n4_; have HB := n5_; clear n0_ n1_ n2_ n3_ n4_ n5_; (try clear hb); (try clear hb2); (try clear hk); (try clear hi)))
                          go_ret
                          exact ⟨by first | rfl | (simp [iR, iQ] <;> rfl) | (simp [*, iR, iQ] <;> rfl), by repeat (first | (with_reducible first | exact HB.out | apply iF | apply iD | apply iG | refine iE ?_ GE575.out | refine iE ?_ GE580.out | refine iE ?_ GE586.out) | exact HB.out)⟩
                      · replace c61 := Bool.eq_false_iff.mpr c61
                        subst c61
                        have H1 : (some false) = some r := by rw [if_neg (show ¬ (false = true) by decide)] at H; exact H
                        clear H
                        have H := H1
                        clear H1
                        obtain rfl := Option.some.inj H
                        go_wp2_with (first | ((with_reducible refine iT (f := 29) rfl ?_); refine jG (some 120) rfl rfl Try.func29 (by kernel_rfl) rfl #[] rfl (by (try simp only [List.map_toArray, List.map_cons, List.map_nil]); first | done | rfl | (simp only [List.length_drop, List.length_take]; rfl)) ?_; (with_reducible refine (stratumlaw12_known.calls k2  false _ A60.out).mono ?_); rintro e w79 ⟨rfl, hb⟩; refine ⟨_, rfl, ?_⟩; have n0_ := iC.mk (Kd.R_below (by (with_reducible repeat (first | apply Kd.R_alloc | apply Kd.R_drewN | apply Kd.R_drew)); exact HO_581001.out) hb); have n1_ := iC.mk (Kd.R_below (by (with_reducible repeat (first | apply Kd.R_alloc | apply Kd.R_drewN | apply Kd.R_drew)); exact HO_587001.out) hb); have n2_ := iC.mk (iL (g := gb575) (o := .cells #[.int .u16 a3_0, .int .u16 a3_1, .int .u8 a3_2] 55 (0, 0)) (bk_ BK575.out) hb); have n3_ := iC.mk (iL (g := gb580) (o := .cells #[.int .u32 t576, .slice Ao15 t577.length co15] 42 (0, 0)) (bk_ BK580.out) hb); have n4_ := iC.mk (iL (g := gb586) (o := .cells #[.int .u32 t581, .slice Ao22 t582.length co22] 42 (0, 0)) (bk_ BK586.out) hb); have n5_ := iC.mk (iM (by repeat (first | (with_reducible first | exact HB.out | apply iF | apply iD | apply iG | refine iE ?_ GE575.out | refine iE ?_ GE580.out | refine iE ?_ GE586.out) | exact HB.out)) hb); clear HO_581001; clear HO_587001; clear BK575; clear BK580; clear BK586; clear HB; have HO_581001 := n0_; have HO_587001 := n1_; have BK575 := n2_; have BK580 := n3_; have BK586 := n4_; have HB := n5_; clear n0_ n1_ n2_ n3_ n4_ n5_; (try clear hb); (try clear hb2); (try clear hk); (try clear hi)))
                        go_ret
                        exact ⟨by first | rfl | (simp [iR, iQ] <;> rfl) | (simp [*, iR, iQ] <;> rfl), by repeat (first | (with_reducible first | exact HB.out | apply iF | apply iD | apply iG | refine iE ?_ GE575.out | refine iE ?_ GE580.out | refine iE ?_ GE586.out) | exact HB.out)⟩
              · rw [if_neg c30] at H
                have c30b0 : (t585 == 0) = false := beq_eq_false_iff_ne.mpr c30
                have c30b1 : (t585 != 0) = true := bne_iff_ne.mpr c30
                replace H := Option.bind_eq_some_iff.mp H
                obtain ⟨t588, A800, H⟩ := H
                replace H : (if t588 = true then (if t585 = 120 then (if x17_1 = true then (if t585 = 3 then (some (decide ((t577.length : Int) ≥ 39))) else (some false)) else (some true)) else (if t585 = 3 then (some (decide ((t577.length : Int) ≥ 39))) else (some false))) else (some false)) = some r := H
                have A80 := iC.mk A800
                clear A800
                by_cases c81 : t588 = true
                · subst c81
                  have H1 : (if t585 = 120 then (if x17_1 = true then (if t585 = 3 then (some (decide ((t577.length : Int) ≥ 39))) else (some false)) else (some true)) else (if t585 = 3 then (some (decide ((t577.length : Int) ≥ 39))) else (some false))) = some r := by rw [if_pos rfl] at H; exact H
                  clear H
                  have H := H1
                  clear H1
                  by_cases c82 : t585 = 120
                  · rw [if_pos c82] at H
                    have c82b0 : (t585 == 120) = true := beq_iff_eq.mpr c82
                    have c82b1 : (t585 != 120) = false := bne_eq_false_iff_eq.mpr c82
                    clear c82
                    by_cases c83 : x17_1 = true
                    · subst c83
                      have H1 : (if t585 = 3 then (some (decide ((t577.length : Int) ≥ 39))) else (some false)) = some r := by rw [if_pos rfl] at H; exact H
                      clear H
                      have H := H1
                      clear H1
                      by_cases c84 : t585 = 3
                      · rw [if_pos c84] at H
                        have c84b0 : (t585 == 3) = true := beq_iff_eq.mpr c84
                        have c84b1 : (t585 != 3) = false := bne_eq_false_iff_eq.mpr c84
                        clear c84
                        obtain rfl := Option.some.inj H
                        go_wp2_with (first | ((with_reducible refine iT (f := 29) rfl ?_); refine jG (some 79) rfl rfl Try.func29 (by kernel_rfl) rfl #[] rfl (by (try simp only [List.map_toArray, List.map_cons, List.map_nil]); first | done | rfl | (simp only [List.length_drop, List.length_take]; rfl)) ?_; (with_reducible refine (stratumlaw12_known.calls k1  true _ A80.out).mono ?_); rintro e w85 ⟨rfl, hb⟩; refine ⟨_, rfl, ?_⟩; have n0_ := iC.mk (Kd.R_below (by (with_reducible repeat (first | apply Kd.R_alloc | apply Kd.R_drewN | apply Kd.R_drew)); exact HO_581001.out) hb); have n1_ := iC.mk (Kd.R_below (by (with_reducible repeat (first | apply Kd.R_alloc | apply Kd.R_drewN | apply Kd.R_drew)); exact HO_587001.out) hb); have n2_ := iC.mk (iL (g := gb575) (o := .cells #[.int .u16 a3_0, .int .u16 a3_1, .int .u8 a3_2] 55 (0, 0)) (bk_ BK575.out) hb); have n3_ := iC.mk (iL (g := gb580) (o := .cells #[.int .u32 t576, .slice Ao15 t577.length co15] 42 (0, 0)) (bk_ BK580.out) hb); have n4_ := iC.mk (iL (g := gb586) (o := .cells #[.int .u32 t581, .slice Ao22 t582.length co22] 42 (0, 0)) (bk_ BK586.out) hb); have n5_ := iC.mk (iM (by repeat (first | (with_reducible first | exact HB.out | apply iF | apply iD | apply iG | refine iE ?_ GE575.out | refine iE ?_ GE580.out | refine iE ?_ GE586.out) | exact HB.out)) hb); clear HO_581001; clear HO_587001; clear BK575; clear BK580; clear BK586; clear HB; have HO_581001 := n0_; have HO_587001 := n1_; have BK575 := n2_; have BK580 := n3_; have BK586 := n4_; have HB := n5_; clear n0_ n1_ n2_ n3_ n4_ n5_; (try clear hb); (try clear hb2); (try clear hk); (try clear hi); have hnb86 := NB580_575.out; have hnc86 := NB575_580.out; have hnb87 := NB580_586.out; have hnc87 := NB586_580.out; have hcz88_0 : w85.cell? ⟨gb580, 0, none⟩ = some (.int .u32 t576) := (iI BK580.out 0).trans rfl; have hcz88_1 : w85.cell? ⟨gb580, 1, none⟩ = some (.slice Ao15 t577.length co15) := (iI BK580.out 1).trans rfl; have hfz88_0 := iH BK580.out 0; have hfz88_1 := iH BK580.out 1))
                        go_ret
                        exact ⟨by first | rfl | (simp [iR, iQ] <;> rfl) | (simp [*, iR, iQ] <;> rfl), by repeat (first | (with_reducible first | exact HB.out | apply iF | apply iD | apply iG | refine iE ?_ GE575.out | refine iE ?_ GE580.out | refine iE ?_ GE586.out) | exact HB.out)⟩
                      · rw [if_neg c84] at H
                        have c84b0 : (t585 == 3) = false := beq_eq_false_iff_ne.mpr c84
                        have c84b1 : (t585 != 3) = true := bne_iff_ne.mpr c84
                        obtain rfl := Option.some.inj H
                        go_wp2_with (first | ((with_reducible refine iT (f := 29) rfl ?_); refine jG (some 79) rfl rfl Try.func29 (by kernel_rfl) rfl #[] rfl (by (try simp only [List.map_toArray, List.map_cons, List.map_nil]); first | done | rfl | (simp only [List.length_drop, List.length_take]; rfl)) ?_; (with_reducible refine (stratumlaw12_known.calls k1  true _ A80.out).mono ?_); rintro e w89 ⟨rfl, hb⟩; refine ⟨_, rfl, ?_⟩; have n0_ := iC.mk (Kd.R_below (by (with_reducible repeat (first | apply Kd.R_alloc | apply Kd.R_drewN | apply Kd.R_drew)); exact HO_581001.out) hb); have n1_ := iC.mk (Kd.R_below (by (with_reducible repeat (first | apply Kd.R_alloc | apply Kd.R_drewN | apply Kd.R_drew)); exact HO_587001.out) hb); have n2_ := iC.mk (iL (g := gb575) (o := .cells #[.int .u16 a3_0, .int .u16 a3_1, .int .u8 a3_2] 55 (0, 0)) (bk_ BK575.out) hb); have n3_ := iC.mk (iL (g := gb580) (o := .cells #[.int .u32 t576, .slice Ao15 t577.length co15] 42 (0, 0)) (bk_ BK580.out) hb); have n4_ := iC.mk (iL (g := gb586) (o := .cells #[.int .u32 t581, .slice Ao22 t582.length co22] 42 (0, 0)) (bk_ BK586.out) hb); have n5_ := iC.mk (iM (by repeat (first | (with_reducible first | exact HB.out | apply iF | apply iD | apply iG | refine iE ?_ GE575.out | refine iE ?_ GE580.out | refine iE ?_ GE586.out) | exact HB.out)) hb); clear HO_581001; clear HO_587001; clear BK575; clear BK580; clear BK586; clear HB; have HO_581001 := n0_; have HO_587001 := n1_; have BK575 := n2_; have BK580 := n3_; have BK586 := n4_; have HB := n5_; clear n0_ n1_ n2_ n3_ n4_ n5_; (try clear hb); (try clear hb2); (try clear hk); (try clear hi)))
                        go_ret
                        exact ⟨by first | rfl | (simp [iR, iQ] <;> rfl) | (simp [*, iR, iQ] <;> rfl), by repeat (first | (with_reducible first | exact HB.out | apply iF | apply iD | apply iG | refine iE ?_ GE575.out | refine iE ?_ GE580.out | refine iE ?_ GE586.out) | exact HB.out)⟩
                    · replace c83 := Bool.eq_false_iff.mpr c83
                      subst c83
                      have H1 : (some true) = some r := by rw [if_neg (show ¬ (false = true) by decide)] at H; exact H
                      clear H
                      have H := H1
                      clear H1
                      obtain rfl := Option.some.inj H
                      go_wp2_with (first | ((with_reducible refine iT (f := 29) rfl ?_); refine jG (some 79) rfl rfl Try.func29 (by kernel_rfl) rfl #[] rfl (by (try simp only [List.map_toArray, List.map_cons, List.map_nil]); first | done | rfl | (simp only [List.length_drop, List.length_take]; rfl)) ?_; (with_reducible refine (stratumlaw12_known.calls k1  true _ A80.out).mono ?_); rintro e w90 ⟨rfl, hb⟩; refine ⟨_, rfl, ?_⟩; have n0_ := iC.mk (Kd.R_below (by (with_reducible repeat (first | apply Kd.R_alloc | apply Kd.R_drewN | apply Kd.R_drew)); exact HO_581001.out) hb); have n1_ := iC.mk (Kd.R_below (by (with_reducible repeat (first | apply Kd.R_alloc | apply Kd.R_drewN | apply Kd.R_drew)); exact HO_587001.out) hb); have n2_ := iC.mk (iL (g := gb575) (o := .cells #[.int .u16 a3_0, .int .u16 a3_1, .int .u8 a3_2] 55 (0, 0)) (bk_ BK575.out) hb); have n3_ := iC.mk (iL (g := gb580) (o := .cells #[.int .u32 t576, .slice Ao15 t577.length co15] 42 (0, 0)) (bk_ BK580.out) hb); have n4_ := iC.mk (iL (g := gb586) (o := .cells #[.int .u32 t581, .slice Ao22 t582.length co22] 42 (0, 0)) (bk_ BK586.out) hb); have n5_ := iC.mk (iM (by repeat (first | (with_reducible first | exact HB.out | apply iF | apply iD | apply iG | refine iE ?_ GE575.out | refine iE ?_ GE580.out | refine iE ?_ GE586.out) | exact HB.out)) hb); clear HO_581001; clear HO_587001; clear BK575; clear BK580; clear BK586; clear HB; have HO_581001 := n0_; have HO_587001 := n1_; have BK575 := n2_; have BK580 := n3_; have BK586 := n4_; have HB := n5_; clear n0_ n1_ n2_ n3_ n4_ n5_; (try clear hb); (try clear hb2); (try clear hk); (try clear hi)))
                      go_ret
                      exact ⟨by first | rfl | (simp [iR, iQ] <;> rfl) | (simp [*, iR, iQ] <;> rfl), by repeat (first | (with_reducible first | exact HB.out | apply iF | apply iD | apply iG | refine iE ?_ GE575.out | refine iE ?_ GE580.out | refine iE ?_ GE586.out) | exact HB.out)⟩
                  · rw [if_neg c82] at H
                    have c82b0 : (t585 == 120) = false := beq_eq_false_iff_ne.mpr c82
                    have c82b1 : (t585 != 120) = true := bne_iff_ne.mpr c82
                    by_cases c91 : t585 = 3
                    · rw [if_pos c91] at H
                      have c91b0 : (t585 == 3) = true := beq_iff_eq.mpr c91
                      have c91b1 : (t585 != 3) = false := bne_eq_false_iff_eq.mpr c91
                      clear c91
                      obtain rfl := Option.some.inj H
                      go_wp2_with (first | ((with_reducible refine iT (f := 29) rfl ?_); refine jG (some 79) rfl rfl Try.func29 (by kernel_rfl) rfl #[] rfl (by (try simp only [List.map_toArray, List.map_cons, List.map_nil]); first | done | rfl | (simp only [List.length_drop, List.length_take]; rfl)) ?_; (with_reducible refine (stratumlaw12_known.calls k1  true _ A80.out).mono ?_); rintro e w92 ⟨rfl, hb⟩; refine ⟨_, rfl, ?_⟩; have n0_ := iC.mk (Kd.R_below (by (with_reducible repeat (first | apply Kd.R_alloc | apply Kd.R_drewN | apply Kd.R_drew)); exact HO_581001.out) hb); have n1_ := iC.mk (Kd.R_below (by (with_reducible repeat (first | apply Kd.R_alloc | apply Kd.R_drewN | apply Kd.R_drew)); exact HO_587001.out) hb); have n2_ := iC.mk (iL (g := gb575) (o := .cells #[.int .u16 a3_0, .int .u16 a3_1, .int .u8 a3_2] 55 (0, 0)) (bk_ BK575.out) hb); have n3_ := iC.mk (iL (g := gb580) (o := .cells #[.int .u32 t576, .slice Ao15 t577.length co15] 42 (0, 0)) (bk_ BK580.out) hb); have n4_ := iC.mk (iL (g := gb586) (o := .cells #[.int .u32 t581, .slice Ao22 t582.length co22] 42 (0, 0)) (bk_ BK586.out) hb); have n5_ := iC.mk (iM (by repeat (first | (with_reducible first | exact HB.out | apply iF | apply iD | apply iG | refine iE ?_ GE575.out | refine iE ?_ GE580.out | refine iE ?_ GE586.out) | exact HB.out)) hb); clear HO_581001; clear HO_587001; clear BK575; clear BK580; clear BK586; clear HB; have HO_581001 := n0_; have HO_587001 := n1_; have BK575 := n2_; have BK580 := n3_; have BK586 := n4_; have HB := n5_; clear n0_ n1_ n2_ n3_ n4_ n5_; (try clear hb); (try clear hb2); (try clear hk); (try clear hi); have hnb93 := NB580_575.out; have hnc93 := NB575_580.out; have hnb94 := NB580_586.out; have hnc94 := NB586_580.out; have hcz95_0 : w92.cell? ⟨gb580, 0, none⟩ = some (.int .u32 t576) := (iI BK580.out 0).trans rfl; have hcz95_1 : w92.cell? ⟨gb580, 1, none⟩ = some (.slice Ao15 t577.length co15) := (iI BK580.out 1).trans rfl; have hfz95_0 := iH BK580.out 0; have hfz95_1 := iH BK580.out 1))
                      go_ret
                      exact ⟨by first | rfl | (simp [iR, iQ] <;> rfl) | (simp [*, iR, iQ] <;> rfl), by repeat (first | (with_reducible first | exact HB.out | apply iF | apply iD | apply iG | refine iE ?_ GE575.out | refine iE ?_ GE580.out | refine iE ?_ GE586.out) | exact HB.out)⟩
                    · rw [if_neg c91] at H
                      have c91b0 : (t585 == 3) = false := beq_eq_false_iff_ne.mpr c91
                      have c91b1 : (t585 != 3) = true := bne_iff_ne.mpr c91
                      obtain rfl := Option.some.inj H
                      go_wp2_with (first | ((with_reducible refine iT (f := 29) rfl ?_); refine jG (some 79) rfl rfl Try.func29 (by kernel_rfl) rfl #[] rfl (by (try simp only [List.map_toArray, List.map_cons, List.map_nil]); first | done | rfl | (simp only [List.length_drop, List.length_take]; rfl)) ?_; (with_reducible refine (stratumlaw12_known.calls k1  true _ A80.out).mono ?_); rintro e w96 ⟨rfl, hb⟩; refine ⟨_, rfl, ?_⟩; have n0_ := iC.mk (Kd.R_below (by (with_reducible repeat (first | apply Kd.R_alloc | apply Kd.R_drewN | apply Kd.R_drew)); exact HO_581001.out) hb); have n1_ := iC.mk (Kd.R_below (by (with_reducible repeat (first | apply Kd.R_alloc | apply Kd.R_drewN | apply Kd.R_drew)); exact HO_587001.out) hb); have n2_ := iC.mk (iL (g := gb575) (o := .cells #[.int .u16 a3_0, .int .u16 a3_1, .int .u8 a3_2] 55 (0, 0)) (bk_ BK575.out) hb); have n3_ := iC.mk (iL (g := gb580) (o := .cells #[.int .u32 t576, .slice Ao15 t577.length co15] 42 (0, 0)) (bk_ BK580.out) hb); have n4_ := iC.mk (iL (g := gb586) (o := .cells #[.int .u32 t581, .slice Ao22 t582.length co22] 42 (0, 0)) (bk_ BK586.out) hb); have n5_ := iC.mk (iM (by repeat (first | (with_reducible first | exact HB.out | apply iF | apply iD | apply iG | refine iE ?_ GE575.out | refine iE ?_ GE580.out | refine iE ?_ GE586.out) | exact HB.out)) hb); clear HO_581001; clear HO_587001; clear BK575; clear BK580; clear BK586; clear HB; have HO_581001 := n0_; have HO_587001 := n1_; have BK575 := n2_; have BK580 := n3_; have BK586 := n4_; have HB := n5_; clear n0_ n1_ n2_ n3_ n4_ n5_; (try clear hb); (try clear hb2); (try clear hk); (try clear hi)))
                      go_ret
                      exact ⟨by first | rfl | (simp [iR, iQ] <;> rfl) | (simp [*, iR, iQ] <;> rfl), by repeat (first | (with_reducible first | exact HB.out | apply iF | apply iD | apply iG | refine iE ?_ GE575.out | refine iE ?_ GE580.out | refine iE ?_ GE586.out) | exact HB.out)⟩
                · replace c81 := Bool.eq_false_iff.mpr c81
                  subst c81
                  have H1 : (some false) = some r := by rw [if_neg (show ¬ (false = true) by decide)] at H; exact H
                  clear H
                  have H := H1
                  clear H1
                  obtain rfl := Option.some.inj H
                  go_wp2_with (first | ((with_reducible refine iT (f := 29) rfl ?_); refine jG (some 79) rfl rfl Try.func29 (by kernel_rfl) rfl #[] rfl (by (try simp only [List.map_toArray, List.map_cons, List.map_nil]); first | done | rfl | (simp only [List.length_drop, List.length_take]; rfl)) ?_; (with_reducible refine (stratumlaw12_known.calls k1  false _ A80.out).mono ?_); rintro e w97 ⟨rfl, hb⟩; refine ⟨_, rfl, ?_⟩; have n0_ := iC.mk (Kd.R_below (by (with_reducible repeat (first | apply Kd.R_alloc | apply Kd.R_drewN | apply Kd.R_drew)); exact HO_581001.out) hb); have n1_ := iC.mk (Kd.R_below (by (with_reducible repeat (first | apply Kd.R_alloc | apply Kd.R_drewN | apply Kd.R_drew)); exact HO_587001.out) hb); have n2_ := iC.mk (iL (g := gb575) (o := .cells #[.int .u16 a3_0, .int .u16 a3_1, .int .u8 a3_2] 55 (0, 0)) (bk_ BK575.out) hb); have n3_ := iC.mk (iL (g := gb580) (o := .cells #[.int .u32 t576, .slice Ao15 t577.length co15] 42 (0, 0)) (bk_ BK580.out) hb); have n4_ := iC.mk (iL (g := gb586) (o := .cells #[.int .u32 t581, .slice Ao22 t582.length co22] 42 (0, 0)) (bk_ BK586.out) hb); have n5_ := iC.mk (iM (by repeat (first | (with_reducible first | exact HB.out | apply iF | apply iD | apply iG | refine iE ?_ GE575.out | refine iE ?_ GE580.out | refine iE ?_ GE586.out) | exact HB.out)) hb); clear HO_581001; clear HO_587001; clear BK575; clear BK580; clear BK586; clear HB; have HO_581001 := n0_; have HO_587001 := n1_; have BK575 := n2_; have BK580 := n3_; have BK586 := n4_; have HB := n5_; clear n0_ n1_ n2_ n3_ n4_ n5_; (try clear hb); (try clear hb2); (try clear hk); (try clear hi)))
                  go_ret
                  exact ⟨by first | rfl | (simp [iR, iQ] <;> rfl) | (simp [*, iR, iQ] <;> rfl), by repeat (first | (with_reducible first | exact HB.out | apply iF | apply iD | apply iG | refine iE ?_ GE575.out | refine iE ?_ GE580.out | refine iE ?_ GE586.out) | exact HB.out)⟩
end Go.Proofs.Ytbpdejbkfpkphaa.K
end

section
namespace Go.Proofs.Ytbpdejbkfpkphaa.K
open Go Go.RowKit Go.Proofs.YtbpdejbkfpkphaaW.PrintWords Go.Proofs.YtbpdejbkfpkphaaW.PrintLast Go.Proofs.YtbpdejbkfpkphaaW.PrintMore
theorem zB (a : Nat) (h : a < 65536) : ∃ S : Nat, wrap64 (2 + wrap64 (Int.tmod (a : Int) 200)) = (S : Int) ∧ 2 ≤ S ∧ S ≤ 201 := by
  have h1 := qZ (a : Int) 200 (by omega) (by decide)
  generalize Int.tmod (a : Int) 200 = x at h1
  rw [lM x h1.1 (by omega), lM (2 + x) (by omega) (by omega)]
  exact ⟨(2 + x).toNat, by omega, by omega, by omega⟩
end Go.Proofs.Ytbpdejbkfpkphaa.K
end
