/- Parts of the proof, one behind the other: K43. -/
import Derived.Test.YtbpdejbkfpkphaaQSpansBack9
set_option linter.unusedVariables false
set_option linter.unusedSimpArgs false
section
namespace Go.Proofs.Ytbpdejbkfpkphaa.K
open Go.RowKit Go.Proofs.YtbpdejbkfpkphaaW.PrintWords Go.Proofs.YtbpdejbkfpkphaaW.PrintLast Go.Proofs.YtbpdejbkfpkphaaW.PrintMore
attribute [local go_sem] jS jR jZ kC jP jO jV jW
attribute [local go_sem high] yO
mutual
def stratumlaw12_SpansBack.j0 : Nat → Bool → Int → List (S60) → Int → List (S60) → Option (Bool)
  | 0, _, _, _, _, _ => none
  | k + 1, x103, x380000, x380001, x399000, x399001 => if x103 = true then (some false) else (stratumlaw12_SpansBack.l0 k 0 x380000 x380001 x399000 x399001)
def stratumlaw12_SpansBack.l0 : Nat → Int → Int → List (S60) → Int → List (S60) → Option (Bool)
  | 0, _, _, _, _, _ => none
  | k + 1, x17, x380000, x380001, x399000, x399001 => if x17 < (x399001.length : Int) then (if 0 ≤ x17 then (if x17 < (x380001.length : Int) then (if (!(((iU x399001 x17).f0) == ((iU x380001 x17).f0)) || (!(((iU x399001 x17).f1) == ((iU x380001 x17).f1)))) = true then (some false) else (stratumlaw12_SpansBack.l0 k (wrap64 (x17 + 1)) x380000 x380001 x399000 x399001)) else (none)) else (none)) else ((stratumlaw12_known.f k).bind fun t401 => (if t401 = true then ((spans_Same.f k x399000 x399001 x380000 x380001).bind fun t402 => (some (!t402))) else (some false)))
end
def stratumlaw12_SpansBack.f (k : Nat) (l0 : List (S55)) (a1 : Int) (a2_0 : Int) (a2_1 : Int) (a2_2 : Int) : Option (Bool) := (stratumlaw12_Of.f k (wrap64 (2 + (wrap64 (Int.tmod a1 200)))) 3 l0).bind fun bt375 => (if (wrap64 (2 + (wrap64 (Int.tmod a1 200)))) = 0 then (none) else (if (wrap64 ((wrap64 (2 + (wrap64 (Int.tmod a1 200)))) - (Int.tmod (wrap64 (a2_0)) (wrap64 (2 + (wrap64 (Int.tmod a1 200))))))) = 0 then (none) else ((spans_Nodes.f bt375.1 bt375.2 (Int.tmod (wrap64 (a2_0)) (wrap64 (2 + (wrap64 (Int.tmod a1 200))))) (wrap64 ((wrap64 ((Int.tmod (wrap64 (a2_0)) (wrap64 (2 + (wrap64 (Int.tmod a1 200))))) + 1)) + (Int.tmod (wrap64 (a2_1)) (wrap64 ((wrap64 (2 + (wrap64 (Int.tmod a1 200)))) - (Int.tmod (wrap64 (a2_0)) (wrap64 (2 + (wrap64 (Int.tmod a1 200))))))))))).bind fun t380 => (if (t380.length : Int) = 1 then (if 0 < (t380.length : Int) then ((spans_Split.f k bt375.1 bt375.2 (wrap64 (2 + (wrap64 (Int.tmod a1 200)))) 3 (Int.tmod (wrap64 (a2_0)) (wrap64 (2 + (wrap64 (Int.tmod a1 200))))) (wrap64 ((wrap64 ((Int.tmod (wrap64 (a2_0)) (wrap64 (2 + (wrap64 (Int.tmod a1 200))))) + 1)) + (Int.tmod (wrap64 (a2_1)) (wrap64 ((wrap64 (2 + (wrap64 (Int.tmod a1 200)))) - (Int.tmod (wrap64 (a2_0)) (wrap64 (2 + (wrap64 (Int.tmod a1 200)))))))))) (Int.tmod (wrap64 ((wrap64 ((rd t380 0) + 1)) + (Int.tmod (wrap64 (a2_2)) 2))) 3)).bind fun bt385 => (if bt385.2.2 = 0 then ((spans_Split.f k bt385.1 bt385.2.1 (wrap64 (2 + (wrap64 (Int.tmod a1 200)))) 3 (Int.tmod (wrap64 (a2_0)) (wrap64 (2 + (wrap64 (Int.tmod a1 200))))) (wrap64 ((wrap64 ((Int.tmod (wrap64 (a2_0)) (wrap64 (2 + (wrap64 (Int.tmod a1 200))))) + 1)) + (Int.tmod (wrap64 (a2_1)) (wrap64 ((wrap64 (2 + (wrap64 (Int.tmod a1 200)))) - (Int.tmod (wrap64 (a2_0)) (wrap64 (2 + (wrap64 (Int.tmod a1 200)))))))))) (rd t380 0)).bind fun bt393 => (if bt393.2.2 = 0 then (if bt393.1 = ((bt375.1 + 2) % 4294967296) then (stratumlaw12_SpansBack.j0 k ((bt393.2.1.length : Int) != (bt375.2.length : Int)) bt375.1 bt375.2 bt393.1 bt393.2.1) else (stratumlaw12_SpansBack.j0 k true bt375.1 bt375.2 bt393.1 bt393.2.1)) else (stratumlaw12_SpansBack.j0 k true bt375.1 bt375.2 bt393.1 bt393.2.1))) else ((stratumlaw12_known.f k).bind fun t391 => (if t391 = true then (some (bt385.2.2 == 3)) else (some false))))) else (none)) else ((stratumlaw12_known.f k).bind fun t383 => (some t383))))))
theorem stratumlaw12_SpansBack.mono_l : ∀ k, (∀ y0 y1 y2 y3 y4, LeO (stratumlaw12_SpansBack.j0 k y0 y1 y2 y3 y4) (stratumlaw12_SpansBack.j0 (k + 1) y0 y1 y2 y3 y4)) ∧ (∀ y0 y1 y2 y3 y4, LeO (stratumlaw12_SpansBack.l0 k y0 y1 y2 y3 y4) (stratumlaw12_SpansBack.l0 (k + 1) y0 y1 y2 y3 y4))
  | 0 => ⟨fun _ _ _ _ _ r h => by simp [stratumlaw12_SpansBack.j0] at h, fun _ _ _ _ _ r h => by simp [stratumlaw12_SpansBack.l0] at h⟩
  | k + 1 => by
    obtain ⟨ih0, ih1⟩ := stratumlaw12_SpansBack.mono_l k
    refine ⟨?_, ?_⟩
    · intro y0 y1 y2 y3 y4
      unfold stratumlaw12_SpansBack.j0
      repeat' first
      | (with_reducible exact ih0 _ _ _ _ _)
      | (with_reducible exact ih1 _ _ _ _ _)
      | (with_reducible exact spans_Same.mono _ _ _ _ _)
      | (with_reducible exact spans_Split.mono _ _ _ _ _ _ _ _)
      | (with_reducible exact stratumlaw12_Of.mono _ _ _ _)
      | (with_reducible exact stratumlaw12_known.mono _)
      | (with_reducible exact LeO.refl _)
      | (with_reducible exact LeO.none _)
      | (with_reducible refine LeO.ite ?_ ?_)
      | (with_reducible refine LeO.bind ?_ (fun _ => ?_))
      | exact ih0 _ _ _ _ _
      | exact ih1 _ _ _ _ _
      | exact spans_Same.mono _ _ _ _ _
      | exact spans_Split.mono _ _ _ _ _ _ _ _
      | exact stratumlaw12_Of.mono _ _ _ _
      | exact stratumlaw12_known.mono _
      | exact LeO.none _
      | refine LeO.ite ?_ ?_
      | refine LeO.bind ?_ (fun _ => ?_)
    · intro y0 y1 y2 y3 y4
      unfold stratumlaw12_SpansBack.l0
      repeat' first
      | (with_reducible exact ih0 _ _ _ _ _)
      | (with_reducible exact ih1 _ _ _ _ _)
      | (with_reducible exact spans_Same.mono _ _ _ _ _)
      | (with_reducible exact spans_Split.mono _ _ _ _ _ _ _ _)
      | (with_reducible exact stratumlaw12_Of.mono _ _ _ _)
      | (with_reducible exact stratumlaw12_known.mono _)
      | (with_reducible exact LeO.refl _)
      | (with_reducible exact LeO.none _)
      | (with_reducible refine LeO.ite ?_ ?_)
      | (with_reducible refine LeO.bind ?_ (fun _ => ?_))
      | exact ih0 _ _ _ _ _
      | exact ih1 _ _ _ _ _
      | exact spans_Same.mono _ _ _ _ _
      | exact spans_Split.mono _ _ _ _ _ _ _ _
      | exact stratumlaw12_Of.mono _ _ _ _
      | exact stratumlaw12_known.mono _
      | exact LeO.none _
      | refine LeO.ite ?_ ?_
      | refine LeO.bind ?_ (fun _ => ?_)
theorem stratumlaw12_SpansBack.mono : ∀ a0 a1 a2 a3 a4 k, LeO (stratumlaw12_SpansBack.f k a0 a1 a2 a3 a4) (stratumlaw12_SpansBack.f (k + 1) a0 a1 a2 a3 a4) := by
  intro a0 a1 a2 a3 a4 k
  obtain ⟨ih0, ih1⟩ := stratumlaw12_SpansBack.mono_l k
  unfold stratumlaw12_SpansBack.f
  repeat' first
      | (with_reducible exact ih0 _ _ _ _ _)
      | (with_reducible exact ih1 _ _ _ _ _)
      | (with_reducible exact spans_Same.mono _ _ _ _ _)
      | (with_reducible exact spans_Split.mono _ _ _ _ _ _ _ _)
      | (with_reducible exact stratumlaw12_Of.mono _ _ _ _)
      | (with_reducible exact stratumlaw12_known.mono _)
      | (with_reducible exact LeO.refl _)
      | (with_reducible exact LeO.none _)
      | (with_reducible refine LeO.ite ?_ ?_)
      | (with_reducible refine LeO.bind ?_ (fun _ => ?_))
      | exact ih0 _ _ _ _ _
      | exact ih1 _ _ _ _ _
      | exact spans_Same.mono _ _ _ _ _
      | exact spans_Split.mono _ _ _ _ _ _ _ _
      | exact stratumlaw12_Of.mono _ _ _ _
      | exact stratumlaw12_known.mono _
      | exact LeO.none _
      | refine LeO.ite ?_ ?_
      | refine LeO.bind ?_ (fun _ => ?_)
def stratumlaw12_SpansBack.T8 : Bool × List (List Nat × List Nat) := (true, [([], []), ([0], [0]), ([1], [1]), ([2], [2]), ([], []), ([4], [4]), ([5], [5]), ([6], [6]), ([3, 7], [3, 7]), ([8], [8]), ([9, 0, 1, 2, 3, 4, 5, 6, 7, 8, 9], [9])])
def stratumlaw12_SpansBack.B8 : List Nat := [0, 1, 3, 7, 0, 16, 48, 112, 255, 511, 1023]
theorem stratumlaw12_SpansBack.tab8 : rtab .any (opsOf Try.f6 8) = stratumlaw12_SpansBack.T8 := by kernel_rfl
theorem stratumlaw12_SpansBack.bits8 : l9 stratumlaw12_SpansBack.T8.2 stratumlaw12_SpansBack.B8 = true := by kernel_rfl
def stratumlaw12_SpansBack.T12 : Bool × List (List Nat × List Nat) := (true, [([], []), ([], []), ([], []), ([], []), ([], []), ([4], [4]), ([5], [5]), ([0, 1, 2, 3, 6], [0, 1, 2, 3, 6]), ([7], [7]), ([8], [8]), ([8], [8]), ([], []), ([11, 9, 7, 0, 1, 2, 3, 4, 5, 6, 7, 8, 9, 11], [9, 11]), ([10, 12, 0, 1, 2, 3, 4, 5, 6, 7, 8, 9, 10, 11, 12], [10])])
def stratumlaw12_SpansBack.B12 : List Nat := [0, 0, 0, 0, 0, 16, 48, 127, 255, 511, 511, 0, 3071, 8191]
theorem stratumlaw12_SpansBack.tab12 : rtab .any (opsOf Try.f6 12) = stratumlaw12_SpansBack.T12 := by kernel_rfl
theorem stratumlaw12_SpansBack.bits12 : l9 stratumlaw12_SpansBack.T12.2 stratumlaw12_SpansBack.B12 = true := by kernel_rfl
def stratumlaw12_SpansBack.T18 : Bool × List (List Nat × List Nat) := (true, [([], []), ([0], [0]), ([], []), ([1, 2], [1, 2]), ([3], [3]), ([], []), ([5], [5]), ([], []), ([6, 7], [6, 7]), ([8], [8]), ([4, 9], [4, 9])])
def stratumlaw12_SpansBack.B18 : List Nat := [0, 1, 0, 7, 15, 0, 32, 0, 224, 480, 1023]
theorem stratumlaw12_SpansBack.tab18 : rtab .any (opsOf Try.f6 18) = stratumlaw12_SpansBack.T18 := by kernel_rfl
theorem stratumlaw12_SpansBack.bits18 : l9 stratumlaw12_SpansBack.T18.2 stratumlaw12_SpansBack.B18 = true := by kernel_rfl
set_option maxHeartbeats 8000000 in
set_option maxRecDepth 100000 in
theorem stratumlaw12_SpansBack.calls (k : Nat) (A0 : Option Addr) (c0 : Nat) (l0 : List (S55)) (a1 : Int) (a2_0 : Int) (a2_1 : Int) (a2_2 : Int) (r : Bool) (w : World) (hr0 : Kd.C k55 w A0 l0.length l0) (hc0 : l0.length ≤ c0) (h : stratumlaw12_SpansBack.f k l0 a1 a2_0 a2_1 a2_2 = some r) :
    Calls Try.prog 6 #[.slice A0 l0.length c0, .int .u16 a1, .agg #[.int .u16 a2_0, .int .u16 a2_1, .int .u8 a2_2]] w fun e w' => e = .returned (.bool r) ∧ Below w.heap.size w w' := by
  have hu55 := Try.underlying55
  have hu42 := Try.underlying42
  have hu60 := Try.underlying60
  have HR0 := iC.mk hr0
  have HC0 := iC.mk hc0
  clear hr0 hc0
  have HB := iC.mk (Below.refl w.heap.size w)
  have H : ((stratumlaw12_Of.f k (wrap64 (2 + (wrap64 (Int.tmod a1 200)))) 3 l0).bind fun bt375 => (if (wrap64 (2 + (wrap64 (Int.tmod a1 200)))) = 0 then (none) else (if (wrap64 ((wrap64 (2 + (wrap64 (Int.tmod a1 200)))) - (Int.tmod (wrap64 (a2_0)) (wrap64 (2 + (wrap64 (Int.tmod a1 200))))))) = 0 then (none) else ((spans_Nodes.f bt375.1 bt375.2 (Int.tmod (wrap64 (a2_0)) (wrap64 (2 + (wrap64 (Int.tmod a1 200))))) (wrap64 ((wrap64 ((Int.tmod (wrap64 (a2_0)) (wrap64 (2 + (wrap64 (Int.tmod a1 200))))) + 1)) + (Int.tmod (wrap64 (a2_1)) (wrap64 ((wrap64 (2 + (wrap64 (Int.tmod a1 200)))) - (Int.tmod (wrap64 (a2_0)) (wrap64 (2 + (wrap64 (Int.tmod a1 200))))))))))).bind fun t380 => (if (t380.length : Int) = 1 then (if 0 < (t380.length : Int) then ((spans_Split.f k bt375.1 bt375.2 (wrap64 (2 + (wrap64 (Int.tmod a1 200)))) 3 (Int.tmod (wrap64 (a2_0)) (wrap64 (2 + (wrap64 (Int.tmod a1 200))))) (wrap64 ((wrap64 ((Int.tmod (wrap64 (a2_0)) (wrap64 (2 + (wrap64 (Int.tmod a1 200))))) + 1)) + (Int.tmod (wrap64 (a2_1)) (wrap64 ((wrap64 (2 + (wrap64 (Int.tmod a1 200)))) - (Int.tmod (wrap64 (a2_0)) (wrap64 (2 + (wrap64 (Int.tmod a1 200)))))))))) (Int.tmod (wrap64 ((wrap64 ((rd t380 0) + 1)) + (Int.tmod (wrap64 (a2_2)) 2))) 3)).bind fun bt385 => (if bt385.2.2 = 0 then ((spans_Split.f k bt385.1 bt385.2.1 (wrap64 (2 + (wrap64 (Int.tmod a1 200)))) 3 (Int.tmod (wrap64 (a2_0)) (wrap64 (2 + (wrap64 (Int.tmod a1 200))))) (wrap64 ((wrap64 ((Int.tmod (wrap64 (a2_0)) (wrap64 (2 + (wrap64 (Int.tmod a1 200))))) + 1)) + (Int.tmod (wrap64 (a2_1)) (wrap64 ((wrap64 (2 + (wrap64 (Int.tmod a1 200)))) - (Int.tmod (wrap64 (a2_0)) (wrap64 (2 + (wrap64 (Int.tmod a1 200)))))))))) (rd t380 0)).bind fun bt393 => (if bt393.2.2 = 0 then (if bt393.1 = ((bt375.1 + 2) % 4294967296) then (stratumlaw12_SpansBack.j0 k ((bt393.2.1.length : Int) != (bt375.2.length : Int)) bt375.1 bt375.2 bt393.1 bt393.2.1) else (stratumlaw12_SpansBack.j0 k true bt375.1 bt375.2 bt393.1 bt393.2.1)) else (stratumlaw12_SpansBack.j0 k true bt375.1 bt375.2 bt393.1 bt393.2.1))) else ((stratumlaw12_known.f k).bind fun t391 => (if t391 = true then (some (bt385.2.2 == 3)) else (some false))))) else (none)) else ((stratumlaw12_known.f k).bind fun t383 => (some t383))))))) = some r := h
  clear h
  replace H := Option.bind_eq_some_iff.mp H
  obtain ⟨⟨t375, t376⟩, A40, H⟩ := H
  replace H : (if (wrap64 (2 + (wrap64 (Int.tmod a1 200)))) = 0 then (none) else (if (wrap64 ((wrap64 (2 + (wrap64 (Int.tmod a1 200)))) - (Int.tmod (wrap64 (a2_0)) (wrap64 (2 + (wrap64 (Int.tmod a1 200))))))) = 0 then (none) else ((spans_Nodes.f t375 t376 (Int.tmod (wrap64 (a2_0)) (wrap64 (2 + (wrap64 (Int.tmod a1 200))))) (wrap64 ((wrap64 ((Int.tmod (wrap64 (a2_0)) (wrap64 (2 + (wrap64 (Int.tmod a1 200))))) + 1)) + (Int.tmod (wrap64 (a2_1)) (wrap64 ((wrap64 (2 + (wrap64 (Int.tmod a1 200)))) - (Int.tmod (wrap64 (a2_0)) (wrap64 (2 + (wrap64 (Int.tmod a1 200))))))))))).bind fun t380 => (if (t380.length : Int) = 1 then (if 0 < (t380.length : Int) then ((spans_Split.f k t375 t376 (wrap64 (2 + (wrap64 (Int.tmod a1 200)))) 3 (Int.tmod (wrap64 (a2_0)) (wrap64 (2 + (wrap64 (Int.tmod a1 200))))) (wrap64 ((wrap64 ((Int.tmod (wrap64 (a2_0)) (wrap64 (2 + (wrap64 (Int.tmod a1 200))))) + 1)) + (Int.tmod (wrap64 (a2_1)) (wrap64 ((wrap64 (2 + (wrap64 (Int.tmod a1 200)))) - (Int.tmod (wrap64 (a2_0)) (wrap64 (2 + (wrap64 (Int.tmod a1 200)))))))))) (Int.tmod (wrap64 ((wrap64 ((rd t380 0) + 1)) + (Int.tmod (wrap64 (a2_2)) 2))) 3)).bind fun bt385 => (if bt385.2.2 = 0 then ((spans_Split.f k bt385.1 bt385.2.1 (wrap64 (2 + (wrap64 (Int.tmod a1 200)))) 3 (Int.tmod (wrap64 (a2_0)) (wrap64 (2 + (wrap64 (Int.tmod a1 200))))) (wrap64 ((wrap64 ((Int.tmod (wrap64 (a2_0)) (wrap64 (2 + (wrap64 (Int.tmod a1 200))))) + 1)) + (Int.tmod (wrap64 (a2_1)) (wrap64 ((wrap64 (2 + (wrap64 (Int.tmod a1 200)))) - (Int.tmod (wrap64 (a2_0)) (wrap64 (2 + (wrap64 (Int.tmod a1 200)))))))))) (rd t380 0)).bind fun bt393 => (if bt393.2.2 = 0 then (if bt393.1 = ((t375 + 2) % 4294967296) then (stratumlaw12_SpansBack.j0 k ((bt393.2.1.length : Int) != (t376.length : Int)) t375 t376 bt393.1 bt393.2.1) else (stratumlaw12_SpansBack.j0 k true t375 t376 bt393.1 bt393.2.1)) else (stratumlaw12_SpansBack.j0 k true t375 t376 bt393.1 bt393.2.1))) else ((stratumlaw12_known.f k).bind fun t391 => (if t391 = true then (some (bt385.2.2 == 3)) else (some false))))) else (none)) else ((stratumlaw12_known.f k).bind fun t383 => (some t383)))))) = some r := H
  have A4 := iC.mk A40
  clear A40
  by_cases c5 : (wrap64 (2 + (wrap64 (Int.tmod a1 200)))) = 0
  · rw [if_pos c5] at H
    exact absurd H (by simp)
  · rw [if_neg c5] at H
    have c5b0 : ((wrap64 (2 + (wrap64 (Int.tmod a1 200)))) == 0) = false := beq_eq_false_iff_ne.mpr c5
    have c5b1 : ((wrap64 (2 + (wrap64 (Int.tmod a1 200)))) != 0) = true := bne_iff_ne.mpr c5
    by_cases c6 : (wrap64 ((wrap64 (2 + (wrap64 (Int.tmod a1 200)))) - (Int.tmod (wrap64 (a2_0)) (wrap64 (2 + (wrap64 (Int.tmod a1 200))))))) = 0
    · rw [if_pos c6] at H
      exact absurd H (by simp)
    · rw [if_neg c6] at H
      have c6b0 : ((wrap64 ((wrap64 (2 + (wrap64 (Int.tmod a1 200)))) - (Int.tmod (wrap64 (a2_0)) (wrap64 (2 + (wrap64 (Int.tmod a1 200))))))) == 0) = false := beq_eq_false_iff_ne.mpr c6
      have c6b1 : ((wrap64 ((wrap64 (2 + (wrap64 (Int.tmod a1 200)))) - (Int.tmod (wrap64 (a2_0)) (wrap64 (2 + (wrap64 (Int.tmod a1 200))))))) != 0) = true := bne_iff_ne.mpr c6
      replace H := Option.bind_eq_some_iff.mp H
      obtain ⟨t380, A70, H⟩ := H
      replace H : (if (t380.length : Int) = 1 then (if 0 < (t380.length : Int) then ((spans_Split.f k t375 t376 (wrap64 (2 + (wrap64 (Int.tmod a1 200)))) 3 (Int.tmod (wrap64 (a2_0)) (wrap64 (2 + (wrap64 (Int.tmod a1 200))))) (wrap64 ((wrap64 ((Int.tmod (wrap64 (a2_0)) (wrap64 (2 + (wrap64 (Int.tmod a1 200))))) + 1)) + (Int.tmod (wrap64 (a2_1)) (wrap64 ((wrap64 (2 + (wrap64 (Int.tmod a1 200)))) - (Int.tmod (wrap64 (a2_0)) (wrap64 (2 + (wrap64 (Int.tmod a1 200)))))))))) (Int.tmod (wrap64 ((wrap64 ((rd t380 0) + 1)) + (Int.tmod (wrap64 (a2_2)) 2))) 3)).bind fun bt385 => (if bt385.2.2 = 0 then ((spans_Split.f k bt385.1 bt385.2.1 (wrap64 (2 + (wrap64 (Int.tmod a1 200)))) 3 (Int.tmod (wrap64 (a2_0)) (wrap64 (2 + (wrap64 (Int.tmod a1 200))))) (wrap64 ((wrap64 ((Int.tmod (wrap64 (a2_0)) (wrap64 (2 + (wrap64 (Int.tmod a1 200))))) + 1)) + (Int.tmod (wrap64 (a2_1)) (wrap64 ((wrap64 (2 + (wrap64 (Int.tmod a1 200)))) - (Int.tmod (wrap64 (a2_0)) (wrap64 (2 + (wrap64 (Int.tmod a1 200)))))))))) (rd t380 0)).bind fun bt393 => (if bt393.2.2 = 0 then (if bt393.1 = ((t375 + 2) % 4294967296) then (stratumlaw12_SpansBack.j0 k ((bt393.2.1.length : Int) != (t376.length : Int)) t375 t376 bt393.1 bt393.2.1) else (stratumlaw12_SpansBack.j0 k true t375 t376 bt393.1 bt393.2.1)) else (stratumlaw12_SpansBack.j0 k true t375 t376 bt393.1 bt393.2.1))) else ((stratumlaw12_known.f k).bind fun t391 => (if t391 = true then (some (bt385.2.2 == 3)) else (some false))))) else (none)) else ((stratumlaw12_known.f k).bind fun t383 => (some t383))) = some r := H
      have A7 := iC.mk A70
      clear A70
      by_cases c8 : (t380.length : Int) = 1
      · rw [if_pos c8] at H
        have c8b0 : ((t380.length : Int) == 1) = true := beq_iff_eq.mpr c8
        have c8b1 : ((t380.length : Int) != 1) = false := bne_eq_false_iff_eq.mpr c8
        clear c8
        by_cases c9 : 0 < (t380.length : Int)
        · rw [if_pos c9] at H
          have c9b0 : decide (0 < (t380.length : Int)) = true := decide_eq_true c9
          have c9b1 : decide (0 < t380.length) = true := decide_eq_true (by omega)
          clear c9
          replace H := Option.bind_eq_some_iff.mp H
          obtain ⟨⟨t385, t386, t389⟩, A100, H⟩ := H
          replace H : (if t389 = 0 then ((spans_Split.f k t385 t386 (wrap64 (2 + (wrap64 (Int.tmod a1 200)))) 3 (Int.tmod (wrap64 (a2_0)) (wrap64 (2 + (wrap64 (Int.tmod a1 200))))) (wrap64 ((wrap64 ((Int.tmod (wrap64 (a2_0)) (wrap64 (2 + (wrap64 (Int.tmod a1 200))))) + 1)) + (Int.tmod (wrap64 (a2_1)) (wrap64 ((wrap64 (2 + (wrap64 (Int.tmod a1 200)))) - (Int.tmod (wrap64 (a2_0)) (wrap64 (2 + (wrap64 (Int.tmod a1 200)))))))))) (rd t380 0)).bind fun bt393 => (if bt393.2.2 = 0 then (if bt393.1 = ((t375 + 2) % 4294967296) then (stratumlaw12_SpansBack.j0 k ((bt393.2.1.length : Int) != (t376.length : Int)) t375 t376 bt393.1 bt393.2.1) else (stratumlaw12_SpansBack.j0 k true t375 t376 bt393.1 bt393.2.1)) else (stratumlaw12_SpansBack.j0 k true t375 t376 bt393.1 bt393.2.1))) else ((stratumlaw12_known.f k).bind fun t391 => (if t391 = true then (some (t389 == 3)) else (some false)))) = some r := H
          have A10 := iC.mk A100
          clear A100
          by_cases c11 : t389 = 0
          · rw [if_pos c11] at H
            have c11b0 : (t389 == 0) = true := beq_iff_eq.mpr c11
            have c11b1 : (t389 != 0) = false := bne_eq_false_iff_eq.mpr c11
            clear c11
            replace H := Option.bind_eq_some_iff.mp H
            obtain ⟨⟨t393, t394, t397⟩, A120, H⟩ := H
            replace H : (if t397 = 0 then (if t393 = ((t375 + 2) % 4294967296) then (stratumlaw12_SpansBack.j0 k ((t394.length : Int) != (t376.length : Int)) t375 t376 t393 t394) else (stratumlaw12_SpansBack.j0 k true t375 t376 t393 t394)) else (stratumlaw12_SpansBack.j0 k true t375 t376 t393 t394)) = some r := H
            have A12 := iC.mk A120
            clear A120
            have HC13 := iC.mk H
            clear H
            go_enter Try.func6, Try.ntmps6
            try go_wp2_with (first | ((with_reducible refine jE (N := 5) rfl ?_); (try (refine iV (by rfl) ?_; dsimp only)); refine jB ?hg (N := 5) ?hd (cs := #[.int .u16 a2_0, .int .u16 a2_1, .int .u8 a2_2]) (t := 55) ?hr ?_; (case hd => rfl); (case hg => rfl); (case hr => first | (go_simp; done) | (go_simp; rfl)); intro gb374 hg w14 hbox hb; have n0_ := iC.mk (iM hb_ hb); have n1_ := iC.mk (hbox); have n2_ := iC.mk ((by rw [hg]; exact (iP hb_) : w.heap.size ≤ gb374)); have n3_ := iC.mk ((by rw [hg]; exact (iP hb_) : w.heap.size ≤ gb374)); clear HB; have HB := n0_; have BK374 := n1_; have GW374 := n2_; have GE374 := n3_; clear n0_ n1_ n2_ n3_; clear hb hbox hg) | ((with_reducible refine iT (f := 24) rfl ?_); refine jG (some 24) rfl rfl Try.func24 (by kernel_rfl) rfl #[.int .i64 (wrap64 (2 + (wrap64 (Int.tmod a1 200)))), .int .i64 3, .slice A0 l0.length c0] rfl (by (try simp only [List.map_toArray, List.map_cons, List.map_nil]); first | done | rfl | (simp only [List.length_drop, List.length_take]; rfl)) ?_; (with_reducible refine (stratumlaw12_Of.calls k (wrap64 (2 + (wrap64 (Int.tmod a1 200)))) 3 _ _ l0 t375 t376 _ ?side1 ?side2 A4.out).mono ?_); (case side1 => repeat (first | exact (Kd.C_below HR0.out HB.out) | (with_reducible refine Kd.C_alloc ?_ _) | (with_reducible refine Kd.C_drewN ?_ _) | (with_reducible refine Kd.C_drew ?_))); (case side2 => exact HC0.out); rintro e w15 ⟨v377, rfl, ho0, hb⟩; refine ⟨_, rfl, ?_⟩; have n0_ := iC.mk (Kd.R_lower ho0 (iP (by repeat (first | (with_reducible first | exact HB.out | apply iF | apply iD | apply iG | refine iE ?_ GE374.out) | exact HB.out)))); have n1_ := iC.mk (iL (g := gb374) (o := .cells #[.int .u16 a2_0, .int .u16 a2_1, .int .u8 a2_2] 55 (0, 0)) (bk_ BK374.out) hb); have n2_ := iC.mk (iM (by repeat (first | (with_reducible first | exact HB.out | apply iF | apply iD | apply iG | refine iE ?_ GE374.out) | exact HB.out)) hb); clear BK374; clear HB; have HO378 := n0_; have BK374 := n1_; have HB := n2_; clear n0_ n1_ n2_; (try clear hb); (try clear hb2); (try clear hk); (try clear hi); (try clear ho0)) | ((with_reducible refine jE (N := 8) rfl ?_); (try (refine iV (by rfl) ?_; dsimp only)); refine jB ?hg (N := 8) ?hd (cs := #[.int .u32 0, .slice none 0 0]) (t := 42) ?hr ?_; (case hd => rfl); (case hg => rfl); (case hr => first | (go_simp; done) | (go_simp; rfl)); intro gb379 hg w16 hbox hb; have n0_ := iC.mk (Kd.R_below (by (with_reducible repeat (first | apply Kd.R_alloc | apply Kd.R_drewN | apply Kd.R_drew)); exact HO378.out) hb); have n1_ := iC.mk (iL (g := gb374) (o := .cells #[.int .u16 a2_0, .int .u16 a2_1, .int .u8 a2_2] 55 (0, 0)) (bk_ BK374.out) hb); have n2_ := iC.mk (iM (by repeat (first | (with_reducible first | exact HB.out | apply iF | apply iD | apply iG | refine iE ?_ GE374.out) | exact HB.out)) hb); have n3_ := iC.mk (hbox); have n4_ := iC.mk ((by rw [hg]; exact (iP (by repeat (first | (with_reducible first | exact HB.out | apply iF | apply iD | apply iG | refine iE ?_ GE374.out) | exact HB.out))) : w.heap.size ≤ gb379)); have n5_ := iC.mk ((by rw [hg]; exact (iP (by repeat (first | (with_reducible first | exact HB.out | apply iF | apply iD | apply iG | refine iE ?_ GE374.out) | exact HB.out))) : w.heap.size ≤ gb379)); have n6_ := iC.mk ((by rw [hg]; exact Nat.ne_of_lt (jA (g := gb374) (o := .cells #[.int .u16 a2_0, .int .u16 a2_1, .int .u8 a2_2] 55 (0, 0)) (bk_ BK374.out)) : gb374 ≠ gb379)); have n7_ := iC.mk ((by rw [hg]; exact Nat.ne_of_gt (jA (g := gb374) (o := .cells #[.int .u16 a2_0, .int .u16 a2_1, .int .u8 a2_2] 55 (0, 0)) (bk_ BK374.out)) : gb379 ≠ gb374)); clear HO378; clear BK374; clear HB; have HO378 := n0_; have BK374 := n1_; have HB := n2_; have BK379 := n3_; have GW379 := n4_; have GE379 := n5_; have NB374_379 := n6_; have NB379_374 := n7_; clear n0_ n1_ n2_ n3_ n4_ n5_ n6_ n7_; clear hb hbox hg; have hnb17 := NB379_374.out; have hnc17 := NB374_379.out; have hcz18_0 : w16.cell? ⟨gb379, 0, none⟩ = some (.int .u32 0) := (iI BK379.out 0).trans rfl; have hcz18_1 : w16.cell? ⟨gb379, 1, none⟩ = some (.slice none 0 0) := (iI BK379.out 1).trans rfl; have hfz18_0 := iH BK379.out 0; have hfz18_1 := iH BK379.out 1; obtain ⟨Ao19, co19, eo19⟩ := Kd.R_slice HO378.out; subst eo19; have hcz20_0 : w16.cell? ⟨gb374, 0, none⟩ = some (.int .u16 a2_0) := (iI BK374.out 0).trans rfl; have hcz20_1 : w16.cell? ⟨gb374, 1, none⟩ = some (.int .u16 a2_1) := (iI BK374.out 1).trans rfl; have hcz20_2 : w16.cell? ⟨gb374, 2, none⟩ = some (.int .u8 a2_2) := (iI BK374.out 2).trans rfl; have hfz20_0 := iH BK374.out 0; have hfz20_1 := iH BK374.out 1; have hfz20_2 := iH BK374.out 2) | ((with_reducible refine iT (f := 28) rfl ?_); refine jG (some 43) rfl rfl Try.func28 (by kernel_rfl) rfl #[.agg #[.int .u32 t375, .slice Ao19 t376.length co19], .int .i64 (Int.tmod (wrap64 (a2_0)) (wrap64 (2 + (wrap64 (Int.tmod a1 200))))), .int .i64 (wrap64 ((wrap64 ((Int.tmod (wrap64 (a2_0)) (wrap64 (2 + (wrap64 (Int.tmod a1 200))))) + 1)) + (Int.tmod (wrap64 (a2_1)) (wrap64 ((wrap64 (2 + (wrap64 (Int.tmod a1 200)))) - (Int.tmod (wrap64 (a2_0)) (wrap64 (2 + (wrap64 (Int.tmod a1 200))))))))))] rfl (by (try simp only [List.map_toArray, List.map_cons, List.map_nil]); first | done | rfl | (simp only [List.length_drop, List.length_take]; rfl)) ?_; (with_reducible refine (spans_Nodes.calls t375 _ _ t376 (Int.tmod (wrap64 (a2_0)) (wrap64 (2 + (wrap64 (Int.tmod a1 200))))) (wrap64 ((wrap64 ((Int.tmod (wrap64 (a2_0)) (wrap64 (2 + (wrap64 (Int.tmod a1 200))))) + 1)) + (Int.tmod (wrap64 (a2_1)) (wrap64 ((wrap64 (2 + (wrap64 (Int.tmod a1 200)))) - (Int.tmod (wrap64 (a2_0)) (wrap64 (2 + (wrap64 (Int.tmod a1 200)))))))))) t380 _ ?side1 ?side2 A7.out).mono ?_); (case side1 => refine (Kd.R_reads' (e := 60) (base := w.heap.size) (ok := fun k_ => True) (n := t376.length) (c := co19) ?_).2.2; exact (by (with_reducible repeat (first | apply Kd.R_alloc | apply Kd.R_drewN | apply Kd.R_drew)); exact (Kd.R_mono (Kd.R_far (p := ⟨gb379, 1, none⟩) (Kd.R_far (p := ⟨gb379, 0, none⟩) (Kd.R_types HO378.out BK379.out (by decide)) (fun _ hk => hk.2) (.int .u32 t375)) (fun _ hk => hk.2) (.slice Ao19 t376.length co19)) (fun _ h_ => h_.1)))); (case side2 => exact (Kd.R_reads' HO378.out).2.1); rintro e w21 ⟨v381, rfl, ho0, hb⟩; refine ⟨_, rfl, ?_⟩; have n0_ := iC.mk (Kd.R_below (by (with_reducible repeat (first | apply Kd.R_alloc | apply Kd.R_drewN | apply Kd.R_drew)); exact (Kd.R_mono (Kd.R_far (p := ⟨gb379, 1, none⟩) (Kd.R_far (p := ⟨gb379, 0, none⟩) (Kd.R_types HO378.out BK379.out (by decide)) (fun _ hk => hk.2) (.int .u32 t375)) (fun _ hk => hk.2) (.slice Ao19 t376.length co19)) (fun _ h_ => h_.1))) hb); have n1_ := iC.mk (Kd.R_lower ho0 (iP (by repeat (first | (with_reducible first | exact HB.out | apply iF | apply iD | apply iG | refine iE ?_ GE374.out | refine iE ?_ GE379.out) | exact HB.out)))); have n2_ := iC.mk (iL (g := gb374) (o := .cells #[.int .u16 a2_0, .int .u16 a2_1, .int .u8 a2_2] 55 (0, 0)) (by (with_reducible repeat (first | refine iK ?_ _ | refine iO ?_ | refine iJ ?_ _)); refine jD ?_ NB374_379.out _; (with_reducible repeat (first | refine iK ?_ _ | refine iO ?_ | refine iJ ?_ _)); refine jD ?_ NB374_379.out _; (with_reducible repeat (first | refine iK ?_ _ | refine iO ?_ | refine iJ ?_ _)); exact BK374.out) hb); have n3_ := iC.mk (iL (g := gb379) (o := .cells #[.int .u32 t375, .slice Ao19 t376.length co19] 42 (0, 0)) (by (with_reducible repeat (first | refine iK ?_ _ | refine iO ?_ | refine iJ ?_ _)); refine jC (cs := #[.int .u32 t375, .slice none 0 0]) ?_ 1 _ rfl; (with_reducible repeat (first | refine iK ?_ _ | refine iO ?_ | refine iJ ?_ _)); refine jC (cs := #[.int .u32 0, .slice none 0 0]) ?_ 0 _ rfl; (with_reducible repeat (first | refine iK ?_ _ | refine iO ?_ | refine iJ ?_ _)); exact BK379.out) hb); have n4_ := iC.mk (iM (by repeat (first | (with_reducible first | exact HB.out | apply iF | apply iD | apply iG | refine iE ?_ GE374.out | refine iE ?_ GE379.out) | exact HB.out)) hb); clear HO378; clear BK374; clear BK379; clear HB; have HO378 := n0_; have HO382 := n1_; have BK374 := n2_; have BK379 := n3_; have HB := n4_; clear n0_ n1_ n2_ n3_ n4_; (try clear hb); (try clear hb2); (try clear hk); (try clear hi); (try clear ho0); obtain ⟨Ao22, co22, eo22⟩ := Kd.R_slice HO382.out; subst eo22))
            have n0_ := iC.mk (Kd.R_drew HO378.out)
            have n1_ := iC.mk (Kd.R_drew HO382.out)
            have n2_ := iC.mk (iO BK374.out)
            have n3_ := iC.mk (iO BK379.out)
            have n4_ := iC.mk (iG HB.out)
            clear HO378
            clear HO382
            clear BK374
            clear BK379
            clear HB
            have HO378 := n0_
            have HO382 := n1_
            have BK374 := n2_
            have BK379 := n3_
            have HB := n4_
            clear n0_ n1_ n2_ n3_ n4_
            have p384 : 0 ≤ (0 : Int) := (by omega)
            have q384 : 0 < (t380.length : Int) := of_decide_eq_true asm_
            obtain ⟨ad384, e384, hx384_0⟩ := Kd.at_int (Kd.R_reads' HO382.out).2.2 0 p384 q384
            cases e384
            have qi384 : (0 < t380.length) = True := eq_true (by omega)
            (try rw [show ((0 : Int)).toNat = 0 from rfl] at hx384_0)
            (try rw [Addr.add_zero'] at hx384_0)
            replace p384 := eq_true p384
            replace q384 := eq_true q384
            refine kW (n := 11) (S := fun w' => w'.cell? ⟨gb374, 0, none⟩ = some (.int .u16 a2_0) ∧ w'.cell? ⟨gb374, 1, none⟩ = some (.int .u16 a2_1) ∧ w'.cell? ⟨gb374, 2, none⟩ = some (.int .u8 a2_2) ∧ w'.cell? ad384 = some (.int .i64 (rd t380 0))) (ds := []) #[false, false, false, false, false, false, false, false, false, false, false] (by kernel_rfl) rfl rfl ⟨(iI BK374.out 0).trans rfl, (iI BK374.out 1).trans rfl, (iI BK374.out 2).trans rfl, hx384_0⟩ (fun hHeld => ?_); refine jY stratumlaw12_SpansBack.tab8 stratumlaw12_SpansBack.bits8 (fun HT_ HW_ => ?_)
            generalize w21.drew = w23 at HO378 HO382 BK374 BK379 HB hx384_0 hHeld ⊢
            refine jH (i := 0) (N := some 48) (v := ?_) (a' := ?_) #[true, false, false, false, false, false, false, false, false, false, false] rfl rfl (iZ HT_.out (by kernel_rfl)) (fun _ _ _ h => h) (Or.inl ⟨by rfl, ?_⟩) ?_ ?_
            rotate_left
            · intro w'
              go_simp
              with_reducible rfl
            rotate_left
            · simp only [Act.put, List.setIfInBounds_toArray, List.set_cons_zero, List.set_cons_succ, iW, iY]
              rfl
            refine jH (i := 1) (N := some 49) (v := ?_) (a' := ?_) #[true, true, false, false, false, false, false, false, false, false, false] rfl rfl (iZ HT_.out (by kernel_rfl)) (fun _ _ _ h => h) (Or.inl ⟨by rfl, ?_⟩) ?_ ?_
            rotate_left
            · intro w'
              go_simp
              with_reducible rfl
            rotate_left
            · simp only [Act.put, List.setIfInBounds_toArray, List.set_cons_zero, List.set_cons_succ, iW, iY]
              rfl
            refine jH (i := 4) (N := some 52) (v := ?_) (a' := ?_) #[true, true, false, false, true, false, false, false, false, false, false] rfl rfl (iZ HT_.out (by kernel_rfl)) (fun _ _ _ h => h) (Or.inl ⟨by rfl, ?_⟩) ?_ ?_
            rotate_left
            · intro w'
              go_simp
              with_reducible rfl
            rotate_left
            · simp only [Act.put, List.setIfInBounds_toArray, List.set_cons_zero, List.set_cons_succ, iW, iY]
              rfl
            refine take_ (i := 2) (N := some 50) (v := ?_) (a' := ?_) #[true, true, true, false, true, false, false, false, false, false, false] rfl rfl (jL HT_.out HW_.out (by kernel_rfl)) (fun _ _ _ h => h) (Or.inl ⟨by rfl, ?_⟩) hHeld ?_ ?_
            rotate_left
            · rintro w' ⟨s0, s1, s2, s3⟩
              go_simp
              with_reducible rfl
            rotate_left
            · simp only [Act.put, List.setIfInBounds_toArray, List.set_cons_zero, List.set_cons_succ, iW, iY]
              rfl
            refine jH (i := 3) (N := some 51) (v := ?_) (a' := ?_) #[true, true, true, true, true, false, false, false, false, false, false] rfl rfl (iZ HT_.out (by kernel_rfl)) (fun _ _ _ h => h) (Or.inl ⟨by rfl, ?_⟩) ?_ ?_
            rotate_left
            · intro w'
              go_simp
              with_reducible rfl
            rotate_left
            · simp only [Act.put, List.setIfInBounds_toArray, List.set_cons_zero, List.set_cons_succ, iW, iY]
              rfl
            refine take_ (i := 5) (N := some 53) (v := ?_) (a' := ?_) #[true, true, true, true, true, true, false, false, false, false, false] rfl rfl (jL HT_.out HW_.out (by kernel_rfl)) (fun _ _ _ h => h) (Or.inl ⟨by rfl, ?_⟩) hHeld ?_ ?_
            rotate_left
            · rintro w' ⟨s0, s1, s2, s3⟩
              go_simp
              with_reducible rfl
            rotate_left
            · simp only [Act.put, List.setIfInBounds_toArray, List.set_cons_zero, List.set_cons_succ, iW, iY]
              rfl
            refine jH (i := 6) (N := some 54) (v := ?_) (a' := ?_) #[true, true, true, true, true, true, true, false, false, false, false] rfl rfl (iZ HT_.out (by kernel_rfl)) (fun _ _ _ h => h) (Or.inl ⟨by rfl, ?_⟩) ?_ ?_
            rotate_left
            · intro w'
              go_simp
              with_reducible rfl
            rotate_left
            · simp only [Act.put, List.setIfInBounds_toArray, List.set_cons_zero, List.set_cons_succ, iW, iY]
              rfl
            refine jH (i := 7) (N := some 55) (v := ?_) (a' := ?_) #[true, true, true, true, true, true, true, true, false, false, false] rfl rfl (iZ HT_.out (by kernel_rfl)) (fun _ _ _ h => h) (Or.inl ⟨by rfl, ?_⟩) ?_ ?_
            rotate_left
            · intro w'
              go_simp
              with_reducible rfl
            rotate_left
            · simp only [Act.put, List.setIfInBounds_toArray, List.set_cons_zero, List.set_cons_succ, iW, iY]
              rfl
            refine jH (i := 8) (N := some 56) (v := ?_) (a' := ?_) #[true, true, true, true, true, true, true, true, true, false, false] rfl rfl (iZ HT_.out (by kernel_rfl)) (fun _ _ _ h => h) (Or.inl ⟨by rfl, ?_⟩) ?_ ?_
            rotate_left
            · intro w'
              go_simp
              with_reducible rfl
            rotate_left
            · simp only [Act.put, List.setIfInBounds_toArray, List.set_cons_zero, List.set_cons_succ, iW, iY]
              rfl
            refine jH (i := 9) (N := some 57) (v := ?_) (a' := ?_) #[true, true, true, true, true, true, true, true, true, true, false] rfl rfl (iZ HT_.out (by kernel_rfl)) (fun _ _ _ h => h) (Or.inl ⟨by rfl, ?_⟩) ?_ ?_
            rotate_left
            · intro w'
              go_simp
              with_reducible rfl
            rotate_left
            · simp only [Act.put, List.setIfInBounds_toArray, List.set_cons_zero, List.set_cons_succ, iW, iY]
              rfl
            refine jH (i := 10) (N := some 12) (v := ?_) (a' := ?_) #[true, true, true, true, true, true, true, true, true, true, true] rfl rfl (iZ HT_.out (by kernel_rfl)) (fun _ _ _ h => h) (Or.inl ⟨by rfl, ?_⟩) ?_ ?_
            rotate_left
            · intro w'
              go_simp
              with_reducible rfl
            rotate_left
            · simp only [Act.put, List.setIfInBounds_toArray, List.set_cons_zero, List.set_cons_succ, iW, iY]
              rfl
            refine mJ (kN HT_.out (by kernel_rfl)) ?_
            have hcz24_0 : w23.cell? ⟨gb379, 0, none⟩ = some (.int .u32 t375) := (iI BK379.out 0).trans rfl
            have hcz24_1 : w23.cell? ⟨gb379, 1, none⟩ = some (.slice Ao19 t376.length co19) := (iI BK379.out 1).trans rfl
            have hfz24_0 := iH BK379.out 0
            have hfz24_1 := iH BK379.out 1
            try go_wp2_with (first | ((with_reducible refine iT (f := 30) rfl ?_); refine jG (some 64) rfl rfl Try.func30 (by kernel_rfl) rfl #[.agg #[.int .u32 t375, .slice Ao19 t376.length co19], .int .i64 (wrap64 (2 + (wrap64 (Int.tmod a1 200)))), .int .i64 3, .int .i64 (Int.tmod (wrap64 (a2_0)) (wrap64 (2 + (wrap64 (Int.tmod a1 200))))), .int .i64 (wrap64 ((wrap64 ((Int.tmod (wrap64 (a2_0)) (wrap64 (2 + (wrap64 (Int.tmod a1 200))))) + 1)) + (Int.tmod (wrap64 (a2_1)) (wrap64 ((wrap64 (2 + (wrap64 (Int.tmod a1 200)))) - (Int.tmod (wrap64 (a2_0)) (wrap64 (2 + (wrap64 (Int.tmod a1 200)))))))))), .int .i64 (Int.tmod (wrap64 ((wrap64 ((rd t380 0) + 1)) + (Int.tmod (wrap64 (a2_2)) 2))) 3)] rfl (by (try simp only [List.map_toArray, List.map_cons, List.map_nil]); first | done | rfl | (simp only [List.length_drop, List.length_take]; rfl)) ?_; (with_reducible refine (spans_Split.calls k t375 _ _ t376 (wrap64 (2 + (wrap64 (Int.tmod a1 200)))) 3 (Int.tmod (wrap64 (a2_0)) (wrap64 (2 + (wrap64 (Int.tmod a1 200))))) (wrap64 ((wrap64 ((Int.tmod (wrap64 (a2_0)) (wrap64 (2 + (wrap64 (Int.tmod a1 200))))) + 1)) + (Int.tmod (wrap64 (a2_1)) (wrap64 ((wrap64 (2 + (wrap64 (Int.tmod a1 200)))) - (Int.tmod (wrap64 (a2_0)) (wrap64 (2 + (wrap64 (Int.tmod a1 200)))))))))) (Int.tmod (wrap64 ((wrap64 ((rd t380 0) + 1)) + (Int.tmod (wrap64 (a2_2)) 2))) 3) t385 t386 t389 _ ?side1 ?side2 A10.out).mono ?_); (case side1 => repeat (first | exact (Kd.R_reads' HO378.out).2.2 | (with_reducible refine Kd.C_alloc ?_ _) | (with_reducible refine Kd.C_drewN ?_ _) | (with_reducible refine Kd.C_drew ?_))); (case side2 => exact (Kd.R_reads' HO378.out).2.1); rintro e w25 ⟨v387, rfl, ho0, hb⟩; refine ⟨_, rfl, ?_⟩; have n0_ := iC.mk (Kd.R_elder' (by (with_reducible repeat (first | apply Kd.R_alloc | apply Kd.R_drewN | apply Kd.R_drew)); exact HO378.out) (Kd.R_base ho0) hb); have n1_ := iC.mk (Kd.R_below (by (with_reducible repeat (first | apply Kd.R_alloc | apply Kd.R_drewN | apply Kd.R_drew)); exact HO382.out) hb); have n2_ := iC.mk (Kd.R_lower (Kd.R_new' ho0 (Kd.R_lt (by (with_reducible repeat (first | apply Kd.R_alloc | apply Kd.R_drewN | apply Kd.R_drew)); exact HO378.out))) (iP (by repeat (first | (with_reducible first | exact HB.out | apply iF | apply iD | apply iG | refine iE ?_ GE374.out | refine iE ?_ GE379.out) | exact HB.out)))); have n3_ := iC.mk (iL (g := gb374) (o := .cells #[.int .u16 a2_0, .int .u16 a2_1, .int .u8 a2_2] 55 (0, 0)) (bk_ BK374.out) hb); have n4_ := iC.mk (iL (g := gb379) (o := .cells #[.int .u32 t375, .slice Ao19 t376.length co19] 42 (0, 0)) (bk_ BK379.out) hb); have n5_ := iC.mk (iM (by repeat (first | (with_reducible first | exact HB.out | apply iF | apply iD | apply iG | refine iE ?_ GE374.out | refine iE ?_ GE379.out) | exact HB.out)) hb); clear HO378; clear HO382; clear BK374; clear BK379; clear HB; have HO378 := n0_; have HO382 := n1_; have HO388 := n2_; have BK374 := n3_; have BK379 := n4_; have HB := n5_; clear n0_ n1_ n2_ n3_ n4_ n5_; (try clear hb); (try clear hb2); (try clear hk); (try clear hi); (try clear ho0)) | ((with_reducible refine jE (N := 13) rfl ?_); (try (refine iV (by rfl) ?_; dsimp only)); refine jB ?hg (N := 13) ?hd (cs := #[.int .u32 0, .slice none 0 0]) (t := 42) ?hr ?_; (case hd => rfl); (case hg => rfl); (case hr => first | (go_simp; done) | (go_simp; rfl)); intro gb390 hg w26 hbox hb; have n0_ := iC.mk (Kd.R_below (by (with_reducible repeat (first | apply Kd.R_alloc | apply Kd.R_drewN | apply Kd.R_drew)); exact HO378.out) hb); have n1_ := iC.mk (Kd.R_below (by (with_reducible repeat (first | apply Kd.R_alloc | apply Kd.R_drewN | apply Kd.R_drew)); exact HO382.out) hb); have n2_ := iC.mk (Kd.R_below (by (with_reducible repeat (first | apply Kd.R_alloc | apply Kd.R_drewN | apply Kd.R_drew)); exact HO388.out) hb); have n3_ := iC.mk (iL (g := gb374) (o := .cells #[.int .u16 a2_0, .int .u16 a2_1, .int .u8 a2_2] 55 (0, 0)) (bk_ BK374.out) hb); have n4_ := iC.mk (iL (g := gb379) (o := .cells #[.int .u32 t375, .slice Ao19 t376.length co19] 42 (0, 0)) (bk_ BK379.out) hb); have n5_ := iC.mk (iM (by repeat (first | (with_reducible first | exact HB.out | apply iF | apply iD | apply iG | refine iE ?_ GE374.out | refine iE ?_ GE379.out) | exact HB.out)) hb); have n6_ := iC.mk (hbox); have n7_ := iC.mk ((by rw [hg]; exact (iP (by repeat (first | (with_reducible first | exact HB.out | apply iF | apply iD | apply iG | refine iE ?_ GE374.out | refine iE ?_ GE379.out) | exact HB.out))) : w.heap.size ≤ gb390)); have n8_ := iC.mk ((by rw [hg]; exact (iP (by repeat (first | (with_reducible first | exact HB.out | apply iF | apply iD | apply iG | refine iE ?_ GE374.out | refine iE ?_ GE379.out) | exact HB.out))) : w.heap.size ≤ gb390)); have n9_ := iC.mk ((by rw [hg]; exact Nat.ne_of_lt (jA (g := gb374) (o := .cells #[.int .u16 a2_0, .int .u16 a2_1, .int .u8 a2_2] 55 (0, 0)) (bk_ BK374.out)) : gb374 ≠ gb390)); have n10_ := iC.mk ((by rw [hg]; exact Nat.ne_of_gt (jA (g := gb374) (o := .cells #[.int .u16 a2_0, .int .u16 a2_1, .int .u8 a2_2] 55 (0, 0)) (bk_ BK374.out)) : gb390 ≠ gb374)); have n11_ := iC.mk ((by rw [hg]; exact Nat.ne_of_lt (jA (g := gb379) (o := .cells #[.int .u32 t375, .slice Ao19 t376.length co19] 42 (0, 0)) (bk_ BK379.out)) : gb379 ≠ gb390)); have n12_ := iC.mk ((by rw [hg]; exact Nat.ne_of_gt (jA (g := gb379) (o := .cells #[.int .u32 t375, .slice Ao19 t376.length co19] 42 (0, 0)) (bk_ BK379.out)) : gb390 ≠ gb379)); clear HO378; clear HO382; clear HO388; clear BK374; clear BK379; clear HB; have HO378 := n0_; have HO382 := n1_; have HO388 := n2_; have BK374 := n3_; have BK379 := n4_; have HB := n5_; have BK390 := n6_; have GW390 := n7_; have GE390 := n8_; have NB374_390 := n9_; have NB390_374 := n10_; have NB379_390 := n11_; have NB390_379 := n12_; clear n0_ n1_ n2_ n3_ n4_ n5_ n6_ n7_ n8_ n9_ n10_ n11_ n12_; clear hb hbox hg; have hnb27 := NB390_374.out; have hnc27 := NB374_390.out; have hnb28 := NB390_379.out; have hnc28 := NB379_390.out; have hcz29_0 : w26.cell? ⟨gb390, 0, none⟩ = some (.int .u32 0) := (iI BK390.out 0).trans rfl; have hcz29_1 : w26.cell? ⟨gb390, 1, none⟩ = some (.slice none 0 0) := (iI BK390.out 1).trans rfl; have hfz29_0 := iH BK390.out 0; have hfz29_1 := iH BK390.out 1; obtain ⟨Ao30, co30, eo30⟩ := Kd.R_slice HO388.out; subst eo30))
            have n0_ : iC (Kd.R k60 60 ((w26.setCell ⟨gb390, 0, none⟩ (.int .u32 t385)).setCell ⟨gb390, 1, none⟩ (.slice Ao30 t386.length co30)) w.heap.size (fun k_ => some k_ ≠ (.slice Ao30 t386.length co30 : Value).ownBlock) (.slice Ao19 t376.length co19) t376) := ⟨by (with_reducible repeat (first | apply Kd.R_alloc | apply Kd.R_drewN | apply Kd.R_drew)); exact Kd.R_mono (Kd.R_far (p := ⟨gb390, 1, none⟩) (Kd.R_far (p := ⟨gb390, 0, none⟩) (Kd.R_types HO378.out BK390.out (by decide)) (fun _ hk => hk.2) (.int .u32 t385)) (fun _ hk => hk.2) (.slice Ao30 t386.length co30)) (fun _ hk => hk.1.2)⟩
            have n1_ : iC (Kd.R (Kd.int .i64) 3 ((w26.setCell ⟨gb390, 0, none⟩ (.int .u32 t385)).setCell ⟨gb390, 1, none⟩ (.slice Ao30 t386.length co30)) w.heap.size (fun _ => True) (.slice (some ad384) t380.length co22) t380) := ⟨by (with_reducible repeat (first | apply Kd.R_alloc | apply Kd.R_drewN | apply Kd.R_drew)); exact Kd.R_mono (Kd.R_far (p := ⟨gb390, 1, none⟩) (Kd.R_far (p := ⟨gb390, 0, none⟩) (Kd.R_types HO382.out BK390.out (by decide)) (fun _ hk => hk.2) (.int .u32 t385)) (fun _ hk => hk.2) (.slice Ao30 t386.length co30)) (fun _ hk => trivial)⟩
            have n2_ : iC (Kd.R k60 60 ((w26.setCell ⟨gb390, 0, none⟩ (.int .u32 t385)).setCell ⟨gb390, 1, none⟩ (.slice Ao30 t386.length co30)) w.heap.size (fun k_ => some k_ ≠ (.slice Ao19 t376.length co19 : Value).ownBlock) (.slice Ao30 t386.length co30) t386) := ⟨by (with_reducible repeat (first | apply Kd.R_alloc | apply Kd.R_drewN | apply Kd.R_drew)); exact Kd.R_mono (Kd.R_far (p := ⟨gb390, 1, none⟩) (Kd.R_far (p := ⟨gb390, 0, none⟩) (Kd.R_types HO388.out BK390.out (by decide)) (fun _ hk => hk.2) (.int .u32 t385)) (fun _ hk => hk.2) (.slice Ao30 t386.length co30)) (fun _ hk => hk.1.2)⟩
            have n3_ : iC (((w26.setCell ⟨gb390, 0, none⟩ (.int .u32 t385)).setCell ⟨gb390, 1, none⟩ (.slice Ao30 t386.length co30)).heap[gb374]? = some (.cells #[.int .u16 a2_0, .int .u16 a2_1, .int .u8 a2_2] 55 (0, 0))) := ⟨by (with_reducible repeat (first | refine iK ?_ _ | refine iO ?_ | refine iJ ?_ _)); refine jD ?_ NB374_390.out _; (with_reducible repeat (first | refine iK ?_ _ | refine iO ?_ | refine iJ ?_ _)); refine jD ?_ NB374_390.out _; (with_reducible repeat (first | refine iK ?_ _ | refine iO ?_ | refine iJ ?_ _)); exact BK374.out⟩
            have n4_ : iC (((w26.setCell ⟨gb390, 0, none⟩ (.int .u32 t385)).setCell ⟨gb390, 1, none⟩ (.slice Ao30 t386.length co30)).heap[gb379]? = some (.cells #[.int .u32 t375, .slice Ao19 t376.length co19] 42 (0, 0))) := ⟨by (with_reducible repeat (first | refine iK ?_ _ | refine iO ?_ | refine iJ ?_ _)); refine jD ?_ NB379_390.out _; (with_reducible repeat (first | refine iK ?_ _ | refine iO ?_ | refine iJ ?_ _)); refine jD ?_ NB379_390.out _; (with_reducible repeat (first | refine iK ?_ _ | refine iO ?_ | refine iJ ?_ _)); exact BK379.out⟩
            have n5_ : iC (((w26.setCell ⟨gb390, 0, none⟩ (.int .u32 t385)).setCell ⟨gb390, 1, none⟩ (.slice Ao30 t386.length co30)).heap[gb390]? = some (.cells #[.int .u32 t385, .slice Ao30 t386.length co30] 42 (0, 0))) := ⟨by (with_reducible repeat (first | refine iK ?_ _ | refine iO ?_ | refine iJ ?_ _)); refine jC (cs := #[.int .u32 t385, .slice none 0 0]) ?_ 1 _ rfl; (with_reducible repeat (first | refine iK ?_ _ | refine iO ?_ | refine iJ ?_ _)); refine jC (cs := #[.int .u32 0, .slice none 0 0]) ?_ 0 _ rfl; (with_reducible repeat (first | refine iK ?_ _ | refine iO ?_ | refine iJ ?_ _)); exact BK390.out⟩
            have n6_ : iC (Below w.heap.size w ((w26.setCell ⟨gb390, 0, none⟩ (.int .u32 t385)).setCell ⟨gb390, 1, none⟩ (.slice Ao30 t386.length co30))) := ⟨by repeat (first | (with_reducible first | exact HB.out | apply iF | apply iD | apply iG | refine iE ?_ GE374.out | refine iE ?_ GE379.out | refine iE ?_ GE390.out) | exact HB.out)⟩
            (try clear HO378)
            (try clear HO382)
            (try clear HO388)
            (try clear BK374)
            (try clear BK379)
            (try clear BK390)
            (try clear HB)
            generalize ((w26.setCell ⟨gb390, 0, none⟩ (.int .u32 t385)).setCell ⟨gb390, 1, none⟩ (.slice Ao30 t386.length co30)) = w31 at n0_ n1_ n2_ n3_ n4_ n5_ n6_ ⊢
            have HO378 := n0_
            have HO382 := n1_
            have HO388 := n2_
            have BK374 := n3_
            have BK379 := n4_
            have BK390 := n5_
            have HB := n6_
            clear n0_ n1_ n2_ n3_ n4_ n5_ n6_
            have n0_ := iC.mk (Kd.R_drew HO378.out)
            have n1_ := iC.mk (Kd.R_drew HO382.out)
            have n2_ := iC.mk (Kd.R_drew HO388.out)
            have n3_ := iC.mk (iO BK374.out)
            have n4_ := iC.mk (iO BK379.out)
            have n5_ := iC.mk (iO BK390.out)
            have n6_ := iC.mk (iG HB.out)
            clear HO378
            clear HO382
            clear HO388
            clear BK374
            clear BK379
            clear BK390
            clear HB
            have HO378 := n0_
            have HO382 := n1_
            have HO388 := n2_
            have BK374 := n3_
            have BK379 := n4_
            have BK390 := n5_
            have HB := n6_
            clear n0_ n1_ n2_ n3_ n4_ n5_ n6_
            have p392 : 0 ≤ (0 : Int) := (by omega)
            have q392 : 0 < (t380.length : Int) := of_decide_eq_true asm_
            obtain ⟨ad392, e392, hx392_0⟩ := Kd.at_int (Kd.R_reads' HO382.out).2.2 0 p392 q392
            obtain rfl : ad384 = ad392 := (by injection e392)
            have qi392 : (0 < t380.length) = True := eq_true (by omega)
            (try rw [show ((0 : Int)).toNat = 0 from rfl] at hx392_0)
            (try rw [Addr.add_zero'] at hx392_0)
            replace p392 := eq_true p392
            replace q392 := eq_true q392
            refine kW (n := 14) (S := fun w' => w'.cell? ⟨gb390, 0, none⟩ = some (.int .u32 t385) ∧ w'.cell? ⟨gb390, 1, none⟩ = some (.slice Ao30 t386.length co30) ∧ w'.cell? ad384 = some (.int .i64 (rd t380 0))) (ds := []) #[false, false, false, false, false, false, false, false, false, false, false, false, false, false] (by kernel_rfl) rfl rfl ⟨(iI BK390.out 0).trans rfl, (iI BK390.out 1).trans rfl, hx392_0⟩ (fun hHeld => ?_); refine jY stratumlaw12_SpansBack.tab12 stratumlaw12_SpansBack.bits12 (fun HT_ HW_ => ?_)
            generalize w31.drew = w32 at HO378 HO382 HO388 BK374 BK379 BK390 HB hx392_0 hHeld ⊢
            refine jH (i := 1) (N := some 76) (v := ?_) (a' := ?_) #[false, true, false, false, false, false, false, false, false, false, false, false, false, false] rfl rfl (iZ HT_.out (by kernel_rfl)) (fun _ _ _ h => h) (Or.inl ⟨by rfl, ?_⟩) ?_ ?_
            rotate_left
            · intro w'
              go_simp
              with_reducible rfl
            rotate_left
            · simp only [Act.put, List.setIfInBounds_toArray, List.set_cons_zero, List.set_cons_succ, iW, iY]
              rfl
            refine jH (i := 2) (N := some 77) (v := ?_) (a' := ?_) #[false, true, true, false, false, false, false, false, false, false, false, false, false, false] rfl rfl (iZ HT_.out (by kernel_rfl)) (fun _ _ _ h => h) (Or.inl ⟨by rfl, ?_⟩) ?_ ?_
            rotate_left
            · intro w'
              go_simp
              with_reducible rfl
            rotate_left
            · simp only [Act.put, List.setIfInBounds_toArray, List.set_cons_zero, List.set_cons_succ, iW, iY]
              rfl
            refine jH (i := 3) (N := some 78) (v := ?_) (a' := ?_) #[false, true, true, true, false, false, false, false, false, false, false, false, false, false] rfl rfl (iZ HT_.out (by kernel_rfl)) (fun _ _ _ h => h) (Or.inl ⟨by rfl, ?_⟩) ?_ ?_
            rotate_left
            · intro w'
              go_simp
              with_reducible rfl
            rotate_left
            · simp only [Act.put, List.setIfInBounds_toArray, List.set_cons_zero, List.set_cons_succ, iW, iY]
              rfl
            refine jH (i := 4) (N := some 79) (v := ?_) (a' := ?_) #[false, true, true, true, true, false, false, false, false, false, false, false, false, false] rfl rfl (iZ HT_.out (by kernel_rfl)) (fun _ _ _ h => h) (Or.inl ⟨by rfl, ?_⟩) ?_ ?_
            rotate_left
            · intro w'
              go_simp
              with_reducible rfl
            rotate_left
            · simp only [Act.put, List.setIfInBounds_toArray, List.set_cons_zero, List.set_cons_succ, iW, iY]
              rfl
            refine jH (i := 5) (N := some 80) (v := ?_) (a' := ?_) #[false, true, true, true, true, true, false, false, false, false, false, false, false, false] rfl rfl (iZ HT_.out (by kernel_rfl)) (fun _ _ _ h => h) (Or.inl ⟨by rfl, ?_⟩) ?_ ?_
            rotate_left
            · intro w'
              go_simp
              with_reducible rfl
            rotate_left
            · simp only [Act.put, List.setIfInBounds_toArray, List.set_cons_zero, List.set_cons_succ, iW, iY]
              rfl
            refine take_ (i := 0) (N := some 75) (v := ?_) (a' := ?_) #[true, true, true, true, true, true, false, false, false, false, false, false, false, false] rfl rfl (jL HT_.out HW_.out (by kernel_rfl)) (fun _ _ _ h => h) (Or.inl ⟨by rfl, ?_⟩) hHeld ?_ ?_
            rotate_left
            · rintro w' ⟨s0, s1, s2⟩
              go_simp
              with_reducible rfl
            rotate_left
            · simp only [Act.put, List.setIfInBounds_toArray, List.set_cons_zero, List.set_cons_succ, iW, iY]
              rfl
            refine take_ (i := 6) (N := some 81) (v := ?_) (a' := ?_) #[true, true, true, true, true, true, true, false, false, false, false, false, false, false] rfl rfl (jL HT_.out HW_.out (by kernel_rfl)) (fun _ _ _ h => h) (Or.inl ⟨by rfl, ?_⟩) hHeld ?_ ?_
            rotate_left
            · rintro w' ⟨s0, s1, s2⟩
              go_simp
              with_reducible rfl
            rotate_left
            · simp only [Act.put, List.setIfInBounds_toArray, List.set_cons_zero, List.set_cons_succ, iW, iY]
              rfl
            refine yR (σ := Value × Nat) 2 #[true, true, true, true, true, true, true, true, true, true, true, true, false, false] (fun s_ => [(82, .tuple #[.agg #[.int .u32 t393, s_.1], .int .u16 t397]), (15, .pointer (some ⟨s_.2, 0, none⟩)), (74, .tuple #[.agg #[.int .u32 t393, s_.1], .int .u16 t397]), (83, .agg #[.int .u32 t393, s_.1]), (84, .int .u16 t397)]) (fun s_ w' => (w'.cell? ⟨gb390, 0, none⟩ = some (.int .u32 t385) ∧ w'.cell? ⟨gb390, 1, none⟩ = some (.slice Ao30 t386.length co30) ∧ w'.cell? ad384 = some (.int .i64 (rd t380 0))) ∧ (Kd.R k60 60 w' w.heap.size (fun k_ => some k_ ≠ (.slice Ao30 t386.length co30 : Value).ownBlock ∧ some k_ ≠ (s_.1 : Value).ownBlock) (.slice Ao19 t376.length co19) t376) ∧ (Kd.R (Kd.int .i64) 3 w' w.heap.size (fun _ => True) (.slice (some ad384) t380.length co22) t380) ∧ (Kd.R k60 60 w' w.heap.size (fun k_ => some k_ ≠ (.slice Ao19 t376.length co19 : Value).ownBlock ∧ some k_ ≠ (s_.1 : Value).ownBlock) (.slice Ao30 t386.length co30) t386) ∧ (Kd.R k60 60 w' w.heap.size (fun k_ => some k_ ≠ (.slice Ao19 t376.length co19 : Value).ownBlock ∧ some k_ ≠ (.slice Ao30 t386.length co30 : Value).ownBlock) s_.1 t394) ∧ (w'.heap[gb374]? = some (.cells #[.int .u16 a2_0, .int .u16 a2_1, .int .u8 a2_2] 55 (0, 0))) ∧ (w'.heap[gb379]? = some (.cells #[.int .u32 t375, .slice Ao19 t376.length co19] 42 (0, 0))) ∧ (w'.heap[gb390]? = some (.cells #[.int .u32 t385, .slice Ao30 t386.length co30] 42 (0, 0))) ∧ (w'.heap[s_.2]? = some (.cells #[.int .u32 0, .slice none 0 0] 42 (0, 0))) ∧ (w.heap.size ≤ s_.2) ∧ (w.heap.size ≤ s_.2) ∧ (gb374 ≠ s_.2) ∧ (s_.2 ≠ gb374) ∧ (gb379 ≠ s_.2) ∧ (s_.2 ≠ gb379) ∧ (gb390 ≠ s_.2) ∧ (s_.2 ≠ gb390) ∧ (Below w.heap.size w w')) ?_ ?_
            rotate_left
            · intro hCont
              refine two_ (i := 7) (j := 11) (Ni := some 82) (Nj := some 15) #[true, true, true, true, true, true, true, true, false, false, false, false, false, false] #[true, true, true, true, true, true, true, false, false, false, false, true, false, false] rfl rfl rfl rfl (uN HT_.out (by kernel_rfl)) (by decide) (by decide) (fun K hK => ?_) (fun K hK => ?_)
              · skip
                refine nS Try.func30 (by kernel_rfl) rfl #[.agg #[.int .u32 t385, .slice Ao30 t386.length co30], .int .i64 (wrap64 (2 + (wrap64 (Int.tmod a1 200)))), .int .i64 3, .int .i64 (Int.tmod (wrap64 (a2_0)) (wrap64 (2 + (wrap64 (Int.tmod a1 200))))), .int .i64 (wrap64 ((wrap64 ((Int.tmod (wrap64 (a2_0)) (wrap64 (2 + (wrap64 (Int.tmod a1 200))))) + 1)) + (Int.tmod (wrap64 (a2_1)) (wrap64 ((wrap64 (2 + (wrap64 (Int.tmod a1 200)))) - (Int.tmod (wrap64 (a2_0)) (wrap64 (2 + (wrap64 (Int.tmod a1 200)))))))))), .int .i64 (rd t380 0)] (by rfl) rfl rfl (by (try simp only [List.map_toArray, List.map_cons, List.map_nil]); first | done | rfl | (simp only [List.length_drop, List.length_take]; rfl)) ?_
                with_reducible refine (spans_Split.calls k t385 _ _ t386 (wrap64 (2 + (wrap64 (Int.tmod a1 200)))) 3 (Int.tmod (wrap64 (a2_0)) (wrap64 (2 + (wrap64 (Int.tmod a1 200))))) (wrap64 ((wrap64 ((Int.tmod (wrap64 (a2_0)) (wrap64 (2 + (wrap64 (Int.tmod a1 200))))) + 1)) + (Int.tmod (wrap64 (a2_1)) (wrap64 ((wrap64 (2 + (wrap64 (Int.tmod a1 200)))) - (Int.tmod (wrap64 (a2_0)) (wrap64 (2 + (wrap64 (Int.tmod a1 200)))))))))) (rd t380 0) t393 t394 t397 _ ?side1 ?side2 A12.out).mono ?_
                (case side1 => repeat (first | exact (Kd.R_reads' HO388.out).2.2 | (with_reducible refine Kd.C_alloc ?_ _) | (with_reducible refine Kd.C_drewN ?_ _) | (with_reducible refine Kd.C_drew ?_)))
                (case side2 => exact (Kd.R_reads' HO388.out).2.1)
                rintro e w33 ⟨v395, rfl, ho0, hb⟩
                have HS2_ := (hb.cell (World.block_lt_of_cell? _ _ (hHeld.2.2))).trans (hHeld.2.2)
                refine ⟨_, rfl, ?_⟩
                have n0_ := iC.mk (Kd.R_elder' (by (with_reducible repeat (first | apply Kd.R_alloc | apply Kd.R_drewN | apply Kd.R_drew)); exact HO378.out) (Kd.R_base ho0) hb)
                have n1_ := iC.mk (Kd.R_below (by (with_reducible repeat (first | apply Kd.R_alloc | apply Kd.R_drewN | apply Kd.R_drew)); exact HO382.out) hb)
                have n2_ := iC.mk (Kd.R_elder' (by (with_reducible repeat (first | apply Kd.R_alloc | apply Kd.R_drewN | apply Kd.R_drew)); exact HO388.out) (Kd.R_base ho0) hb)
                have n3_ := iC.mk (Kd.R_lower (Kd.R_new' (Kd.R_new' ho0 (Kd.R_lt (by (with_reducible repeat (first | apply Kd.R_alloc | apply Kd.R_drewN | apply Kd.R_drew)); exact HO378.out))) (Kd.R_lt (by (with_reducible repeat (first | apply Kd.R_alloc | apply Kd.R_drewN | apply Kd.R_drew)); exact HO388.out))) (iP (by repeat (first | (with_reducible first | exact HB.out | apply iF | apply iD | apply iG | refine iE ?_ GE374.out | refine iE ?_ GE379.out | refine iE ?_ GE390.out) | exact HB.out))))
                have n4_ := iC.mk (iL (g := gb374) (o := .cells #[.int .u16 a2_0, .int .u16 a2_1, .int .u8 a2_2] 55 (0, 0)) (bk_ BK374.out) hb)
                have n5_ := iC.mk (iL (g := gb379) (o := .cells #[.int .u32 t375, .slice Ao19 t376.length co19] 42 (0, 0)) (bk_ BK379.out) hb)
                have n6_ := iC.mk (iL (g := gb390) (o := .cells #[.int .u32 t385, .slice Ao30 t386.length co30] 42 (0, 0)) (bk_ BK390.out) hb)
                have n7_ := iC.mk (iM (by repeat (first | (with_reducible first | exact HB.out | apply iF | apply iD | apply iG | refine iE ?_ GE374.out | refine iE ?_ GE379.out | refine iE ?_ GE390.out) | exact HB.out)) hb)
                clear HO378
                clear HO382
                clear HO388
                clear BK374
                clear BK379
                clear BK390
                clear HB
                have HO378 := n0_
                have HO382 := n1_
                have HO388 := n2_
                have HO396 := n3_
                have BK374 := n4_
                have BK379 := n5_
                have BK390 := n6_
                have HB := n7_
                clear n0_ n1_ n2_ n3_ n4_ n5_ n6_ n7_
                (try clear hb)
                (try clear hb2)
                (try clear hk)
                (try clear hi)
                (try clear ho0)
                refine hK.out _ _ ⟨(iI BK390.out 0).trans rfl, (iI BK390.out 1).trans rfl, HS2_⟩ (fun hHeld => ?_)
                clear hK K
                refine kP (a' := ?_) ?_ ?_
                rotate_left
                · show Act.put _ (some 82) _ = _
                  simp only [Act.put, List.setIfInBounds_toArray, List.set_cons_zero, List.set_cons_succ, iW, iY]
                  rfl
                refine jH (i := 8) (N := some 74) (v := ?_) (a' := ?_) #[true, true, true, true, true, true, true, true, true, false, false, false, false, false] rfl rfl (iZ HT_.out (by kernel_rfl)) (fun _ _ _ h => h) (Or.inl ⟨by rfl, ?_⟩) ?_ ?_
                rotate_left
                · intro w'
                  go_simp
                  with_reducible rfl
                rotate_left
                · simp only [Act.put, List.setIfInBounds_toArray, List.set_cons_zero, List.set_cons_succ, iW, iY]
                  rfl
                refine jH (i := 9) (N := some 83) (v := ?_) (a' := ?_) #[true, true, true, true, true, true, true, true, true, true, false, false, false, false] rfl rfl (iZ HT_.out (by kernel_rfl)) (fun _ _ _ h => h) (Or.inl ⟨by rfl, ?_⟩) ?_ ?_
                rotate_left
                · intro w'
                  go_simp
                  with_reducible rfl
                rotate_left
                · simp only [Act.put, List.setIfInBounds_toArray, List.set_cons_zero, List.set_cons_succ, iW, iY]
                  rfl
                refine jH (i := 10) (N := some 84) (v := ?_) (a' := ?_) #[true, true, true, true, true, true, true, true, true, true, true, false, false, false] rfl rfl (iZ HT_.out (by kernel_rfl)) (fun _ _ _ h => h) (Or.inl ⟨by rfl, ?_⟩) ?_ ?_
                rotate_left
                · intro w'
                  go_simp
                  with_reducible rfl
                rotate_left
                · simp only [Act.put, List.setIfInBounds_toArray, List.set_cons_zero, List.set_cons_succ, iW, iY]
                  rfl
                refine one_ (i := 11) (N := some 15) #[true, true, true, true, true, true, true, true, true, true, true, true, false, false] rfl rfl (kS HT_.out (by kernel_rfl)) (by decide) (fun K hK => ?_)
                refine lU ?hg (N := 15) ?hd (cs := #[.int .u32 0, .slice none 0 0]) (t := 42) ?hr ?_; (case hd => rfl); (case hg => rfl); (case hr => first | (go_simp; done) | (go_simp; rfl))
                intro gb398 hg w34 hbox hb
                have HS2_ := (hb.cell (World.block_lt_of_cell? _ _ (hHeld.2.2))).trans (hHeld.2.2)
                have n0_ := iC.mk (Kd.R_below (by (with_reducible repeat (first | apply Kd.R_alloc | apply Kd.R_drewN | apply Kd.R_drew)); exact HO378.out) hb)
                have n1_ := iC.mk (Kd.R_below (by (with_reducible repeat (first | apply Kd.R_alloc | apply Kd.R_drewN | apply Kd.R_drew)); exact HO382.out) hb)
                have n2_ := iC.mk (Kd.R_below (by (with_reducible repeat (first | apply Kd.R_alloc | apply Kd.R_drewN | apply Kd.R_drew)); exact HO388.out) hb)
                have n3_ := iC.mk (Kd.R_below (by (with_reducible repeat (first | apply Kd.R_alloc | apply Kd.R_drewN | apply Kd.R_drew)); exact HO396.out) hb)
                have n4_ := iC.mk (iL (g := gb374) (o := .cells #[.int .u16 a2_0, .int .u16 a2_1, .int .u8 a2_2] 55 (0, 0)) (bk_ BK374.out) hb)
                have n5_ := iC.mk (iL (g := gb379) (o := .cells #[.int .u32 t375, .slice Ao19 t376.length co19] 42 (0, 0)) (bk_ BK379.out) hb)
                have n6_ := iC.mk (iL (g := gb390) (o := .cells #[.int .u32 t385, .slice Ao30 t386.length co30] 42 (0, 0)) (bk_ BK390.out) hb)
                have n7_ := iC.mk (iM (by repeat (first | (with_reducible first | exact HB.out | apply iF | apply iD | apply iG | refine iE ?_ GE374.out | refine iE ?_ GE379.out | refine iE ?_ GE390.out) | exact HB.out)) hb)
                have n8_ := iC.mk (hbox)
                have n9_ := iC.mk ((by rw [hg]; exact (iP (by repeat (first | (with_reducible first | exact HB.out | apply iF | apply iD | apply iG | refine iE ?_ GE374.out | refine iE ?_ GE379.out | refine iE ?_ GE390.out) | exact HB.out))) : w.heap.size ≤ gb398))
                have n10_ := iC.mk ((by rw [hg]; exact (iP (by repeat (first | (with_reducible first | exact HB.out | apply iF | apply iD | apply iG | refine iE ?_ GE374.out | refine iE ?_ GE379.out | refine iE ?_ GE390.out) | exact HB.out))) : w.heap.size ≤ gb398))
                have n11_ := iC.mk ((by rw [hg]; exact Nat.ne_of_lt (jA (g := gb374) (o := .cells #[.int .u16 a2_0, .int .u16 a2_1, .int .u8 a2_2] 55 (0, 0)) (bk_ BK374.out)) : gb374 ≠ gb398))
                have n12_ := iC.mk ((by rw [hg]; exact Nat.ne_of_gt (jA (g := gb374) (o := .cells #[.int .u16 a2_0, .int .u16 a2_1, .int .u8 a2_2] 55 (0, 0)) (bk_ BK374.out)) : gb398 ≠ gb374))
                have n13_ := iC.mk ((by rw [hg]; exact Nat.ne_of_lt (jA (g := gb379) (o := .cells #[.int .u32 t375, .slice Ao19 t376.length co19] 42 (0, 0)) (bk_ BK379.out)) : gb379 ≠ gb398))
                have n14_ := iC.mk ((by rw [hg]; exact Nat.ne_of_gt (jA (g := gb379) (o := .cells #[.int .u32 t375, .slice Ao19 t376.length co19] 42 (0, 0)) (bk_ BK379.out)) : gb398 ≠ gb379))
                have n15_ := iC.mk ((by rw [hg]; exact Nat.ne_of_lt (jA (g := gb390) (o := .cells #[.int .u32 t385, .slice Ao30 t386.length co30] 42 (0, 0)) (bk_ BK390.out)) : gb390 ≠ gb398))
                have n16_ := iC.mk ((by rw [hg]; exact Nat.ne_of_gt (jA (g := gb390) (o := .cells #[.int .u32 t385, .slice Ao30 t386.length co30] 42 (0, 0)) (bk_ BK390.out)) : gb398 ≠ gb390))
                clear HO378
                clear HO382
                clear HO388
                clear HO396
                clear BK374
                clear BK379
                clear BK390
                clear HB
                have HO378 := n0_
                have HO382 := n1_
                have HO388 := n2_
                have HO396 := n3_
                have BK374 := n4_
                have BK379 := n5_
                have BK390 := n6_
                have HB := n7_
                have BK398 := n8_
                have GW398 := n9_
                have GE398 := n10_
                have NB374_398 := n11_
                have NB398_374 := n12_
                have NB379_398 := n13_
                have NB398_379 := n14_
                have NB390_398 := n15_
                have NB398_390 := n16_
                clear n0_ n1_ n2_ n3_ n4_ n5_ n6_ n7_ n8_ n9_ n10_ n11_ n12_ n13_ n14_ n15_ n16_
                clear hb hbox hg
                refine hK.out _ _ ⟨(iI BK390.out 0).trans rfl, (iI BK390.out 1).trans rfl, HS2_⟩ (fun hHeld => ?_)
                clear hK K
                refine kP (a' := ?_) ?_ ?_
                rotate_left
                · show Act.put _ (some 15) _ = _
                  simp only [Act.put, List.setIfInBounds_toArray, List.set_cons_zero, List.set_cons_succ, iW, iY]
                  rfl
                exact kP (by simp only [lH, Act.put, List.setIfInBounds_toArray, List.set_cons_zero, List.set_cons_succ]) (hCont (v395, gb398) _ ⟨hHeld, (by (with_reducible repeat (first | apply Kd.R_alloc | apply Kd.R_drewN | apply Kd.R_drew)); exact HO378.out), (by (with_reducible repeat (first | apply Kd.R_alloc | apply Kd.R_drewN | apply Kd.R_drew)); exact HO382.out), (by (with_reducible repeat (first | apply Kd.R_alloc | apply Kd.R_drewN | apply Kd.R_drew)); exact HO388.out), (by (with_reducible repeat (first | apply Kd.R_alloc | apply Kd.R_drewN | apply Kd.R_drew)); exact Kd.R_mono HO396.out (fun _ hk => ⟨hk.1.2, hk.2⟩)), (bk_ BK374.out), (bk_ BK379.out), (bk_ BK390.out), (bk_ BK398.out), GW398.out, GE398.out, NB374_398.out, NB398_374.out, NB379_398.out, NB398_379.out, NB390_398.out, NB398_390.out, (by repeat (first | (with_reducible first | exact HB.out | apply iF | apply iD | apply iG | refine iE ?_ GE374.out | refine iE ?_ GE379.out | refine iE ?_ GE390.out | refine iE ?_ GE398.out) | exact HB.out))⟩)
              · skip
                refine lU ?hg (N := 15) ?hd (cs := #[.int .u32 0, .slice none 0 0]) (t := 42) ?hr ?_; (case hd => rfl); (case hg => rfl); (case hr => first | (go_simp; done) | (go_simp; rfl))
                intro gb398 hg w33 hbox hb
                have HS2_ := (hb.cell (World.block_lt_of_cell? _ _ (hHeld.2.2))).trans (hHeld.2.2)
                have n0_ := iC.mk (Kd.R_below (by (with_reducible repeat (first | apply Kd.R_alloc | apply Kd.R_drewN | apply Kd.R_drew)); exact HO378.out) hb)
                have n1_ := iC.mk (Kd.R_below (by (with_reducible repeat (first | apply Kd.R_alloc | apply Kd.R_drewN | apply Kd.R_drew)); exact HO382.out) hb)
                have n2_ := iC.mk (Kd.R_below (by (with_reducible repeat (first | apply Kd.R_alloc | apply Kd.R_drewN | apply Kd.R_drew)); exact HO388.out) hb)
                have n3_ := iC.mk (iL (g := gb374) (o := .cells #[.int .u16 a2_0, .int .u16 a2_1, .int .u8 a2_2] 55 (0, 0)) (bk_ BK374.out) hb)
                have n4_ := iC.mk (iL (g := gb379) (o := .cells #[.int .u32 t375, .slice Ao19 t376.length co19] 42 (0, 0)) (bk_ BK379.out) hb)
                have n5_ := iC.mk (iL (g := gb390) (o := .cells #[.int .u32 t385, .slice Ao30 t386.length co30] 42 (0, 0)) (bk_ BK390.out) hb)
                have n6_ := iC.mk (iM (by repeat (first | (with_reducible first | exact HB.out | apply iF | apply iD | apply iG | refine iE ?_ GE374.out | refine iE ?_ GE379.out | refine iE ?_ GE390.out) | exact HB.out)) hb)
                have n7_ := iC.mk (hbox)
                have n8_ := iC.mk ((by rw [hg]; exact (iP (by repeat (first | (with_reducible first | exact HB.out | apply iF | apply iD | apply iG | refine iE ?_ GE374.out | refine iE ?_ GE379.out | refine iE ?_ GE390.out) | exact HB.out))) : w.heap.size ≤ gb398))
                have n9_ := iC.mk ((by rw [hg]; exact (iP (by repeat (first | (with_reducible first | exact HB.out | apply iF | apply iD | apply iG | refine iE ?_ GE374.out | refine iE ?_ GE379.out | refine iE ?_ GE390.out) | exact HB.out))) : w.heap.size ≤ gb398))
                have n10_ := iC.mk ((by rw [hg]; exact Nat.ne_of_lt (jA (g := gb374) (o := .cells #[.int .u16 a2_0, .int .u16 a2_1, .int .u8 a2_2] 55 (0, 0)) (bk_ BK374.out)) : gb374 ≠ gb398))
                have n11_ := iC.mk ((by rw [hg]; exact Nat.ne_of_gt (jA (g := gb374) (o := .cells #[.int .u16 a2_0, .int .u16 a2_1, .int .u8 a2_2] 55 (0, 0)) (bk_ BK374.out)) : gb398 ≠ gb374))
                have n12_ := iC.mk ((by rw [hg]; exact Nat.ne_of_lt (jA (g := gb379) (o := .cells #[.int .u32 t375, .slice Ao19 t376.length co19] 42 (0, 0)) (bk_ BK379.out)) : gb379 ≠ gb398))
                have n13_ := iC.mk ((by rw [hg]; exact Nat.ne_of_gt (jA (g := gb379) (o := .cells #[.int .u32 t375, .slice Ao19 t376.length co19] 42 (0, 0)) (bk_ BK379.out)) : gb398 ≠ gb379))
                have n14_ := iC.mk ((by rw [hg]; exact Nat.ne_of_lt (jA (g := gb390) (o := .cells #[.int .u32 t385, .slice Ao30 t386.length co30] 42 (0, 0)) (bk_ BK390.out)) : gb390 ≠ gb398))
                have n15_ := iC.mk ((by rw [hg]; exact Nat.ne_of_gt (jA (g := gb390) (o := .cells #[.int .u32 t385, .slice Ao30 t386.length co30] 42 (0, 0)) (bk_ BK390.out)) : gb398 ≠ gb390))
                clear HO378
                clear HO382
                clear HO388
                clear BK374
                clear BK379
                clear BK390
                clear HB
                have HO378 := n0_
                have HO382 := n1_
                have HO388 := n2_
                have BK374 := n3_
                have BK379 := n4_
                have BK390 := n5_
                have HB := n6_
                have BK398 := n7_
                have GW398 := n8_
                have GE398 := n9_
                have NB374_398 := n10_
                have NB398_374 := n11_
                have NB379_398 := n12_
                have NB398_379 := n13_
                have NB390_398 := n14_
                have NB398_390 := n15_
                clear n0_ n1_ n2_ n3_ n4_ n5_ n6_ n7_ n8_ n9_ n10_ n11_ n12_ n13_ n14_ n15_
                clear hb hbox hg
                refine hK.out _ _ ⟨(iI BK390.out 0).trans rfl, (iI BK390.out 1).trans rfl, HS2_⟩ (fun hHeld => ?_)
                clear hK K
                refine kP (a' := ?_) ?_ ?_
                rotate_left
                · show Act.put _ (some 15) _ = _
                  simp only [Act.put, List.setIfInBounds_toArray, List.set_cons_zero, List.set_cons_succ, iW, iY]
                  rfl
                refine one_ (i := 7) (N := some 82) #[true, true, true, true, true, true, true, true, false, false, false, true, false, false] rfl rfl (kS HT_.out (by kernel_rfl)) (by decide) (fun K hK => ?_)
                refine nS Try.func30 (by kernel_rfl) rfl #[.agg #[.int .u32 t385, .slice Ao30 t386.length co30], .int .i64 (wrap64 (2 + (wrap64 (Int.tmod a1 200)))), .int .i64 3, .int .i64 (Int.tmod (wrap64 (a2_0)) (wrap64 (2 + (wrap64 (Int.tmod a1 200))))), .int .i64 (wrap64 ((wrap64 ((Int.tmod (wrap64 (a2_0)) (wrap64 (2 + (wrap64 (Int.tmod a1 200))))) + 1)) + (Int.tmod (wrap64 (a2_1)) (wrap64 ((wrap64 (2 + (wrap64 (Int.tmod a1 200)))) - (Int.tmod (wrap64 (a2_0)) (wrap64 (2 + (wrap64 (Int.tmod a1 200)))))))))), .int .i64 (rd t380 0)] (by rfl) rfl rfl (by (try simp only [List.map_toArray, List.map_cons, List.map_nil]); first | done | rfl | (simp only [List.length_drop, List.length_take]; rfl)) ?_
                with_reducible refine (spans_Split.calls k t385 _ _ t386 (wrap64 (2 + (wrap64 (Int.tmod a1 200)))) 3 (Int.tmod (wrap64 (a2_0)) (wrap64 (2 + (wrap64 (Int.tmod a1 200))))) (wrap64 ((wrap64 ((Int.tmod (wrap64 (a2_0)) (wrap64 (2 + (wrap64 (Int.tmod a1 200))))) + 1)) + (Int.tmod (wrap64 (a2_1)) (wrap64 ((wrap64 (2 + (wrap64 (Int.tmod a1 200)))) - (Int.tmod (wrap64 (a2_0)) (wrap64 (2 + (wrap64 (Int.tmod a1 200)))))))))) (rd t380 0) t393 t394 t397 _ ?side1 ?side2 A12.out).mono ?_
                (case side1 => repeat (first | exact (Kd.R_reads' HO388.out).2.2 | (with_reducible refine Kd.C_alloc ?_ _) | (with_reducible refine Kd.C_drewN ?_ _) | (with_reducible refine Kd.C_drew ?_)))
                (case side2 => exact (Kd.R_reads' HO388.out).2.1)
                rintro e w34 ⟨v395, rfl, ho0, hb⟩
                have HS2_ := (hb.cell (World.block_lt_of_cell? _ _ (hHeld.2.2))).trans (hHeld.2.2)
                refine ⟨_, rfl, ?_⟩
                have n0_ := iC.mk (Kd.R_elder' (by (with_reducible repeat (first | apply Kd.R_alloc | apply Kd.R_drewN | apply Kd.R_drew)); exact HO378.out) (Kd.R_base ho0) hb)
                have n1_ := iC.mk (Kd.R_below (by (with_reducible repeat (first | apply Kd.R_alloc | apply Kd.R_drewN | apply Kd.R_drew)); exact HO382.out) hb)
                have n2_ := iC.mk (Kd.R_elder' (by (with_reducible repeat (first | apply Kd.R_alloc | apply Kd.R_drewN | apply Kd.R_drew)); exact HO388.out) (Kd.R_base ho0) hb)
                have n3_ := iC.mk (Kd.R_lower (Kd.R_new' (Kd.R_new' ho0 (Kd.R_lt (by (with_reducible repeat (first | apply Kd.R_alloc | apply Kd.R_drewN | apply Kd.R_drew)); exact HO378.out))) (Kd.R_lt (by (with_reducible repeat (first | apply Kd.R_alloc | apply Kd.R_drewN | apply Kd.R_drew)); exact HO388.out))) (iP (by repeat (first | (with_reducible first | exact HB.out | apply iF | apply iD | apply iG | refine iE ?_ GE374.out | refine iE ?_ GE379.out | refine iE ?_ GE390.out | refine iE ?_ GE398.out) | exact HB.out))))
                have n4_ := iC.mk (iL (g := gb374) (o := .cells #[.int .u16 a2_0, .int .u16 a2_1, .int .u8 a2_2] 55 (0, 0)) (bk_ BK374.out) hb)
                have n5_ := iC.mk (iL (g := gb379) (o := .cells #[.int .u32 t375, .slice Ao19 t376.length co19] 42 (0, 0)) (bk_ BK379.out) hb)
                have n6_ := iC.mk (iL (g := gb390) (o := .cells #[.int .u32 t385, .slice Ao30 t386.length co30] 42 (0, 0)) (bk_ BK390.out) hb)
                have n7_ := iC.mk (iL (g := gb398) (o := .cells #[.int .u32 0, .slice none 0 0] 42 (0, 0)) (bk_ BK398.out) hb)
                have n8_ := iC.mk (iM (by repeat (first | (with_reducible first | exact HB.out | apply iF | apply iD | apply iG | refine iE ?_ GE374.out | refine iE ?_ GE379.out | refine iE ?_ GE390.out | refine iE ?_ GE398.out) | exact HB.out)) hb)
                clear HO378
                clear HO382
                clear HO388
                clear BK374
                clear BK379
                clear BK390
                clear BK398
                clear HB
                have HO378 := n0_
                have HO382 := n1_
                have HO388 := n2_
                have HO396 := n3_
                have BK374 := n4_
                have BK379 := n5_
                have BK390 := n6_
                have BK398 := n7_
                have HB := n8_
                clear n0_ n1_ n2_ n3_ n4_ n5_ n6_ n7_ n8_
                (try clear hb)
                (try clear hb2)
                (try clear hk)
                (try clear hi)
                (try clear ho0)
                refine hK.out _ _ ⟨(iI BK390.out 0).trans rfl, (iI BK390.out 1).trans rfl, HS2_⟩ (fun hHeld => ?_)
                clear hK K
                refine kP (a' := ?_) ?_ ?_
                rotate_left
                · show Act.put _ (some 82) _ = _
                  simp only [Act.put, List.setIfInBounds_toArray, List.set_cons_zero, List.set_cons_succ, iW, iY]
                  rfl
                refine jH (i := 8) (N := some 74) (v := ?_) (a' := ?_) #[true, true, true, true, true, true, true, true, true, false, false, true, false, false] rfl rfl (iZ HT_.out (by kernel_rfl)) (fun _ _ _ h => h) (Or.inl ⟨by rfl, ?_⟩) ?_ ?_
                rotate_left
                · intro w'
                  go_simp
                  with_reducible rfl
                rotate_left
                · simp only [Act.put, List.setIfInBounds_toArray, List.set_cons_zero, List.set_cons_succ, iW, iY]
                  rfl
                refine jH (i := 9) (N := some 83) (v := ?_) (a' := ?_) #[true, true, true, true, true, true, true, true, true, true, false, true, false, false] rfl rfl (iZ HT_.out (by kernel_rfl)) (fun _ _ _ h => h) (Or.inl ⟨by rfl, ?_⟩) ?_ ?_
                rotate_left
                · intro w'
                  go_simp
                  with_reducible rfl
                rotate_left
                · simp only [Act.put, List.setIfInBounds_toArray, List.set_cons_zero, List.set_cons_succ, iW, iY]
                  rfl
                refine jH (i := 10) (N := some 84) (v := ?_) (a' := ?_) #[true, true, true, true, true, true, true, true, true, true, true, true, false, false] rfl rfl (iZ HT_.out (by kernel_rfl)) (fun _ _ _ h => h) (Or.inl ⟨by rfl, ?_⟩) ?_ ?_
                rotate_left
                · intro w'
                  go_simp
                  with_reducible rfl
                rotate_left
                · simp only [Act.put, List.setIfInBounds_toArray, List.set_cons_zero, List.set_cons_succ, iW, iY]
                  rfl
                exact kP (by simp only [lH, Act.put, List.setIfInBounds_toArray, List.set_cons_zero, List.set_cons_succ]) (hCont (v395, gb398) _ ⟨hHeld, (by (with_reducible repeat (first | apply Kd.R_alloc | apply Kd.R_drewN | apply Kd.R_drew)); exact HO378.out), (by (with_reducible repeat (first | apply Kd.R_alloc | apply Kd.R_drewN | apply Kd.R_drew)); exact HO382.out), (by (with_reducible repeat (first | apply Kd.R_alloc | apply Kd.R_drewN | apply Kd.R_drew)); exact HO388.out), (by (with_reducible repeat (first | apply Kd.R_alloc | apply Kd.R_drewN | apply Kd.R_drew)); exact Kd.R_mono HO396.out (fun _ hk => ⟨hk.1.2, hk.2⟩)), (bk_ BK374.out), (bk_ BK379.out), (bk_ BK390.out), (bk_ BK398.out), GW398.out, GE398.out, NB374_398.out, NB398_374.out, NB379_398.out, NB398_379.out, NB390_398.out, NB398_390.out, (by repeat (first | (with_reducible first | exact HB.out | apply iF | apply iD | apply iG | refine iE ?_ GE374.out | refine iE ?_ GE379.out | refine iE ?_ GE390.out | refine iE ?_ GE398.out) | exact HB.out))⟩)
            rintro ⟨v395, gb398⟩ w35 ⟨hS_, h0_, h1_, h2_, h3_, h4_, h5_, h6_, h7_, h8_, h9_, h10_, h11_, h12_, h13_, h14_, h15_, h16_⟩
            have n0_ : iC (Kd.R k60 60 w35 w.heap.size (fun k_ => some k_ ≠ (.slice Ao30 t386.length co30 : Value).ownBlock ∧ some k_ ≠ (v395 : Value).ownBlock) (.slice Ao19 t376.length co19) t376) := ⟨h0_⟩
            have n1_ : iC (Kd.R (Kd.int .i64) 3 w35 w.heap.size (fun _ => True) (.slice (some ad384) t380.length co22) t380) := ⟨h1_⟩
            have n2_ : iC (Kd.R k60 60 w35 w.heap.size (fun k_ => some k_ ≠ (.slice Ao19 t376.length co19 : Value).ownBlock ∧ some k_ ≠ (v395 : Value).ownBlock) (.slice Ao30 t386.length co30) t386) := ⟨h2_⟩
            have n3_ : iC (Kd.R k60 60 w35 w.heap.size (fun k_ => some k_ ≠ (.slice Ao19 t376.length co19 : Value).ownBlock ∧ some k_ ≠ (.slice Ao30 t386.length co30 : Value).ownBlock) v395 t394) := ⟨h3_⟩
            have n4_ : iC (w35.heap[gb374]? = some (.cells #[.int .u16 a2_0, .int .u16 a2_1, .int .u8 a2_2] 55 (0, 0))) := ⟨h4_⟩
            have n5_ : iC (w35.heap[gb379]? = some (.cells #[.int .u32 t375, .slice Ao19 t376.length co19] 42 (0, 0))) := ⟨h5_⟩
            have n6_ : iC (w35.heap[gb390]? = some (.cells #[.int .u32 t385, .slice Ao30 t386.length co30] 42 (0, 0))) := ⟨h6_⟩
            have n7_ : iC (w35.heap[gb398]? = some (.cells #[.int .u32 0, .slice none 0 0] 42 (0, 0))) := ⟨h7_⟩
            have n8_ : iC (w.heap.size ≤ gb398) := ⟨h8_⟩
            have n9_ : iC (w.heap.size ≤ gb398) := ⟨h9_⟩
            have n10_ : iC (gb374 ≠ gb398) := ⟨h10_⟩
            have n11_ : iC (gb398 ≠ gb374) := ⟨h11_⟩
            have n12_ : iC (gb379 ≠ gb398) := ⟨h12_⟩
            have n13_ : iC (gb398 ≠ gb379) := ⟨h13_⟩
            have n14_ : iC (gb390 ≠ gb398) := ⟨h14_⟩
            have n15_ : iC (gb398 ≠ gb390) := ⟨h15_⟩
            have n16_ : iC (Below w.heap.size w w35) := ⟨h16_⟩
            clear HO378
            clear HO382
            clear HO388
            clear BK374
            clear BK379
            clear BK390
            clear HB
            clear h0_ h1_ h2_ h3_ h4_ h5_ h6_ h7_ h8_ h9_ h10_ h11_ h12_ h13_ h14_ h15_ h16_
            have HO378 := n0_
            have HO382 := n1_
            have HO388 := n2_
            have HO396 := n3_
            have BK374 := n4_
            have BK379 := n5_
            have BK390 := n6_
            have BK398 := n7_
            have GW398 := n8_
            have GE398 := n9_
            have NB374_398 := n10_
            have NB398_374 := n11_
            have NB379_398 := n12_
            have NB398_379 := n13_
            have NB390_398 := n14_
            have NB398_390 := n15_
            have HB := n16_
            clear n0_ n1_ n2_ n3_ n4_ n5_ n6_ n7_ n8_ n9_ n10_ n11_ n12_ n13_ n14_ n15_ n16_
            have hHeld : w35.cell? ⟨gb390, 0, none⟩ = some (.int .u32 t385) ∧ w35.cell? ⟨gb390, 1, none⟩ = some (.slice Ao30 t386.length co30) ∧ w35.cell? ad384 = some (.int .i64 (rd t380 0)) := hS_
            obtain ⟨Ao37, co37, eo37⟩ := Kd.R_slice HO396.out
            (first | subst eo37 | (injection eo37 with f1_ f2_ f3_; have f4_ := f1_.symm; have f5_ := f3_.symm; clear f1_ f2_ f3_; subst f4_; subst f5_))
            refine kP (a' := ?_) ?_ ?_
            rotate_left
            · simp only [lH, Act.put, List.setIfInBounds_toArray, List.set_cons_zero, List.set_cons_succ]
              rfl
            refine one_ (i := 12) (N := none) #[true, true, true, true, true, true, true, true, true, true, true, true, true, false] rfl rfl (kS HT_.out (by kernel_rfl)) (by decide) (fun K hK => ?_)
            have hs36 : w35.cell? ⟨gb398, 0, none⟩ = some (.int .u32 0) := (iI BK398.out 0).trans rfl
            have hfs36 := iH BK398.out 0
            have hns36_0 := NB374_398.out
            have hns36_1 := NB379_398.out
            have hns36_2 := NB390_398.out
            have hms36_0 := NB398_374.out
            have hms36_1 := NB398_379.out
            have hms36_2 := NB398_390.out
            have hs38 : w35.cell? ⟨gb398, 1, none⟩ = some (.slice none 0 0) := (iI BK398.out 1).trans rfl
            have hfs38 := iH BK398.out 1
            have hns38_0 := NB374_398.out
            have hns38_1 := NB379_398.out
            have hns38_2 := NB390_398.out
            have hms38_0 := NB398_374.out
            have hms38_1 := NB398_379.out
            have hms38_2 := NB398_390.out
            refine yF (w1 := ?_) (by rfl) rfl ?_ ?_
            rotate_left
            · go_simp
              rfl
            refine hK.out _ _ ⟨((cell_far (p := ⟨gb398, _, none⟩) NB390_398.out _).trans (((cell_far (p := ⟨gb398, _, none⟩) NB390_398.out _).trans (hHeld.1)))), ((cell_far (p := ⟨gb398, _, none⟩) NB390_398.out _).trans (((cell_far (p := ⟨gb398, _, none⟩) NB390_398.out _).trans (hHeld.2.1)))), ((cell_far (p := ⟨gb398, _, none⟩) (by first | exact Kd.own_blk (Kd.R_ne HO382.out BK398.out (by decide)) | (rw [add_block]; exact Kd.own_blk (Kd.R_ne HO382.out BK398.out (by decide))) | (show (Addr.add _ _).block ≠ _; rw [add_block]; exact Kd.own_blk (Kd.R_ne HO382.out BK398.out (by decide))) | (dsimp only; exact Kd.own_blk (Kd.R_ne HO382.out BK398.out (by decide)))) _).trans (((cell_far (p := ⟨gb398, _, none⟩) (by first | exact Kd.own_blk (Kd.R_ne HO382.out BK398.out (by decide)) | (rw [add_block]; exact Kd.own_blk (Kd.R_ne HO382.out BK398.out (by decide))) | (show (Addr.add _ _).block ≠ _; rw [add_block]; exact Kd.own_blk (Kd.R_ne HO382.out BK398.out (by decide))) | (dsimp only; exact Kd.own_blk (Kd.R_ne HO382.out BK398.out (by decide)))) _).trans (hHeld.2.2))))⟩ (fun hHeld => ?_)
            clear hK K
            refine jH (i := 13) (N := some 16) (v := ?_) (a' := ?_) #[true, true, true, true, true, true, true, true, true, true, true, true, true, true] rfl rfl (iZ HT_.out (by kernel_rfl)) (fun _ _ _ h => h) (Or.inl ⟨by rfl, ?_⟩) ?_ ?_
            rotate_left
            · intro w'
              go_simp
              with_reducible rfl
            rotate_left
            · simp only [Act.put, List.setIfInBounds_toArray, List.set_cons_zero, List.set_cons_succ, iW, iY]
              rfl
            refine mJ (kN HT_.out (by kernel_rfl)) ?_
            go_upto_region 13 with (fail)
            go_cut [103] (fun v103 wc => ∃ (kq : Nat) (x103_12 : Bool), v103 = .bool x103_12 ∧ iC (stratumlaw12_SpansBack.j0 kq x103_12 t375 t376 t393 t394 = some r) ∧ iC (kq ≤ k) ∧ iC (Kd.R k60 60 wc w.heap.size (fun k_ => some k_ ≠ ((.slice Ao30 t386.length co30) : Value).ownBlock ∧ some k_ ≠ ((.slice Ao37 t394.length co37) : Value).ownBlock) (.slice Ao19 t376.length co19) t376) ∧ iC (Kd.R k60 60 wc w.heap.size (fun k_ => some k_ ≠ ((.slice Ao19 t376.length co19) : Value).ownBlock ∧ some k_ ≠ ((.slice Ao37 t394.length co37) : Value).ownBlock) (.slice Ao30 t386.length co30) t386) ∧ iC (Kd.R k60 60 wc w.heap.size (fun k_ => some k_ ≠ ((.slice Ao19 t376.length co19) : Value).ownBlock ∧ some k_ ≠ ((.slice Ao30 t386.length co30) : Value).ownBlock) (.slice Ao37 t394.length co37) t394) ∧ iC (wc.heap[gb374]? = some (.cells #[.int .u16 a2_0, .int .u16 a2_1, .int .u8 a2_2] 55 (0, 0))) ∧ iC (wc.heap[gb379]? = some (.cells #[.int .u32 t375, (.slice Ao19 t376.length co19)] 42 (0, 0))) ∧ iC (wc.heap[gb390]? = some (.cells #[.int .u32 t385, (.slice Ao30 t386.length co30)] 42 (0, 0))) ∧ iC (wc.heap[gb398]? = some (.cells #[.int .u32 t393, (.slice Ao37 t394.length co37)] 42 (0, 0))) ∧ iC (Below w.heap.size w wc))
            case first =>
              have H := HC13.out
              clear HC13
              by_cases c39 : t397 = 0
              · rw [if_pos c39] at H
                have c39b0 : (t397 == 0) = true := beq_iff_eq.mpr c39
                have c39b1 : (t397 != 0) = false := bne_eq_false_iff_eq.mpr c39
                clear c39
                (first | rw [c39b0] | (simp only [iW, iY]; rw [c39b0]) | skip)
                by_cases c40 : t393 = ((t375 + 2) % 4294967296)
                · rw [if_pos c40] at H
                  have c40b0 : (t393 == ((t375 + 2) % 4294967296)) = true := beq_iff_eq.mpr c40
                  have c40b1 : (t393 != ((t375 + 2) % 4294967296)) = false := bne_eq_false_iff_eq.mpr c40
                  clear c40
                  have H' := iC.mk H
                  clear H
                  have hnb41 := NB398_374.out
                  have hnc41 := NB374_398.out
                  have hnb42 := NB398_379.out
                  have hnc42 := NB379_398.out
                  have hnb43 := NB398_390.out
                  have hnc43 := NB390_398.out
                  have hcz44_0 : w35.cell? ⟨gb398, 0, none⟩ = some (.int .u32 0) := (iI BK398.out 0).trans rfl
                  have hcz44_1 : w35.cell? ⟨gb398, 1, none⟩ = some (.slice none 0 0) := (iI BK398.out 1).trans rfl
                  have hfz44_0 := iH BK398.out 0
                  have hfz44_1 := iH BK398.out 1
                  have hnb45 := NB379_374.out
                  have hnc45 := NB374_379.out
                  have hnb46 := NB379_390.out
                  have hnc46 := NB390_379.out
                  have hcz47_0 : w35.cell? ⟨gb379, 0, none⟩ = some (.int .u32 t375) := (iI BK379.out 0).trans rfl
                  have hcz47_1 : w35.cell? ⟨gb379, 1, none⟩ = some (.slice Ao19 t376.length co19) := (iI BK379.out 1).trans rfl
                  have hfz47_0 := iH BK379.out 0
                  have hfz47_1 := iH BK379.out 1
                  go_wp2
                  go_meet
                  case rel => exact ⟨_, (((t394.length : Int) != (t376.length : Int))), (by first | rfl | (simp; done) | (simp [*]; done)), H', ⟨by first | omega | exact Nat.le_refl _⟩, ⟨by (with_reducible repeat (first | apply Kd.R_alloc | apply Kd.R_drewN | apply Kd.R_drew)); exact Kd.R_mono (Kd.R_far (p := ⟨gb398, 1, none⟩) (Kd.R_far (p := ⟨gb398, 0, none⟩) (Kd.R_types HO378.out BK398.out (by decide)) (fun _ hk => hk.2) (.int .u32 t393)) (fun _ hk => hk.2) (.slice Ao37 t394.length co37)) (fun _ hk => ⟨hk.1.1, hk.1.2⟩)⟩, ⟨by (with_reducible repeat (first | apply Kd.R_alloc | apply Kd.R_drewN | apply Kd.R_drew)); exact Kd.R_mono (Kd.R_far (p := ⟨gb398, 1, none⟩) (Kd.R_far (p := ⟨gb398, 0, none⟩) (Kd.R_types HO388.out BK398.out (by decide)) (fun _ hk => hk.2) (.int .u32 t393)) (fun _ hk => hk.2) (.slice Ao37 t394.length co37)) (fun _ hk => ⟨hk.1.1, hk.1.2⟩)⟩, ⟨by (with_reducible repeat (first | apply Kd.R_alloc | apply Kd.R_drewN | apply Kd.R_drew)); exact Kd.R_mono (Kd.R_far (p := ⟨gb398, 1, none⟩) (Kd.R_far (p := ⟨gb398, 0, none⟩) (Kd.R_types HO396.out BK398.out (by decide)) (fun _ hk => hk.2) (.int .u32 t393)) (fun _ hk => hk.2) (.slice Ao37 t394.length co37)) (fun _ hk => ⟨hk.1.1, hk.1.2⟩)⟩, ⟨by (with_reducible repeat (first | refine iK ?_ _ | refine iO ?_ | refine iJ ?_ _)); refine jD ?_ NB374_398.out _; (with_reducible repeat (first | refine iK ?_ _ | refine iO ?_ | refine iJ ?_ _)); refine jD ?_ NB374_398.out _; (with_reducible repeat (first | refine iK ?_ _ | refine iO ?_ | refine iJ ?_ _)); exact BK374.out⟩, ⟨by (with_reducible repeat (first | refine iK ?_ _ | refine iO ?_ | refine iJ ?_ _)); refine jD ?_ NB379_398.out _; (with_reducible repeat (first | refine iK ?_ _ | refine iO ?_ | refine iJ ?_ _)); refine jD ?_ NB379_398.out _; (with_reducible repeat (first | refine iK ?_ _ | refine iO ?_ | refine iJ ?_ _)); exact BK379.out⟩, ⟨by (with_reducible repeat (first | refine iK ?_ _ | refine iO ?_ | refine iJ ?_ _)); refine jD ?_ NB390_398.out _; (with_reducible repeat (first | refine iK ?_ _ | refine iO ?_ | refine iJ ?_ _)); refine jD ?_ NB390_398.out _; (with_reducible repeat (first | refine iK ?_ _ | refine iO ?_ | refine iJ ?_ _)); exact BK390.out⟩, ⟨by (with_reducible repeat (first | refine iK ?_ _ | refine iO ?_ | refine iJ ?_ _)); refine jC (cs := #[.int .u32 t393, .slice none 0 0]) ?_ 1 _ rfl; (with_reducible repeat (first | refine iK ?_ _ | refine iO ?_ | refine iJ ?_ _)); refine jC (cs := #[.int .u32 0, .slice none 0 0]) ?_ 0 _ rfl; (with_reducible repeat (first | refine iK ?_ _ | refine iO ?_ | refine iJ ?_ _)); exact BK398.out⟩, ⟨by repeat (first | (with_reducible first | exact HB.out | apply iF | apply iD | apply iG | refine iE ?_ GE374.out | refine iE ?_ GE379.out | refine iE ?_ GE390.out | refine iE ?_ GE398.out) | exact HB.out)⟩⟩
                · rw [if_neg c40] at H
                  have c40b0 : (t393 == ((t375 + 2) % 4294967296)) = false := beq_eq_false_iff_ne.mpr c40
                  have c40b1 : (t393 != ((t375 + 2) % 4294967296)) = true := bne_iff_ne.mpr c40
                  have H' := iC.mk H
                  clear H
                  have hnb48 := NB398_374.out
                  have hnc48 := NB374_398.out
                  have hnb49 := NB398_379.out
                  have hnc49 := NB379_398.out
                  have hnb50 := NB398_390.out
                  have hnc50 := NB390_398.out
                  have hcz51_0 : w35.cell? ⟨gb398, 0, none⟩ = some (.int .u32 0) := (iI BK398.out 0).trans rfl
                  have hcz51_1 : w35.cell? ⟨gb398, 1, none⟩ = some (.slice none 0 0) := (iI BK398.out 1).trans rfl
                  have hfz51_0 := iH BK398.out 0
                  have hfz51_1 := iH BK398.out 1
                  have hnb52 := NB379_374.out
                  have hnc52 := NB374_379.out
                  have hnb53 := NB379_390.out
                  have hnc53 := NB390_379.out
                  have hcz54_0 : w35.cell? ⟨gb379, 0, none⟩ = some (.int .u32 t375) := (iI BK379.out 0).trans rfl
                  have hcz54_1 : w35.cell? ⟨gb379, 1, none⟩ = some (.slice Ao19 t376.length co19) := (iI BK379.out 1).trans rfl
                  have hfz54_0 := iH BK379.out 0
                  have hfz54_1 := iH BK379.out 1
                  go_wp2
                  go_meet
                  case rel => exact ⟨_, (true), (by first | rfl | (simp; done) | (simp [*]; done)), H', ⟨by first | omega | exact Nat.le_refl _⟩, ⟨by (with_reducible repeat (first | apply Kd.R_alloc | apply Kd.R_drewN | apply Kd.R_drew)); exact Kd.R_mono (Kd.R_far (p := ⟨gb398, 1, none⟩) (Kd.R_far (p := ⟨gb398, 0, none⟩) (Kd.R_types HO378.out BK398.out (by decide)) (fun _ hk => hk.2) (.int .u32 t393)) (fun _ hk => hk.2) (.slice Ao37 t394.length co37)) (fun _ hk => ⟨hk.1.1, hk.1.2⟩)⟩, ⟨by (with_reducible repeat (first | apply Kd.R_alloc | apply Kd.R_drewN | apply Kd.R_drew)); exact Kd.R_mono (Kd.R_far (p := ⟨gb398, 1, none⟩) (Kd.R_far (p := ⟨gb398, 0, none⟩) (Kd.R_types HO388.out BK398.out (by decide)) (fun _ hk => hk.2) (.int .u32 t393)) (fun _ hk => hk.2) (.slice Ao37 t394.length co37)) (fun _ hk => ⟨hk.1.1, hk.1.2⟩)⟩, ⟨by (with_reducible repeat (first | apply Kd.R_alloc | apply Kd.R_drewN | apply Kd.R_drew)); exact Kd.R_mono (Kd.R_far (p := ⟨gb398, 1, none⟩) (Kd.R_far (p := ⟨gb398, 0, none⟩) (Kd.R_types HO396.out BK398.out (by decide)) (fun _ hk => hk.2) (.int .u32 t393)) (fun _ hk => hk.2) (.slice Ao37 t394.length co37)) (fun _ hk => ⟨hk.1.1, hk.1.2⟩)⟩, ⟨by (with_reducible repeat (first | refine iK ?_ _ | refine iO ?_ | refine iJ ?_ _)); refine jD ?_ NB374_398.out _; (with_reducible repeat (first | refine iK ?_ _ | refine iO ?_ | refine iJ ?_ _)); refine jD ?_ NB374_398.out _; (with_reducible repeat (first | refine iK ?_ _ | refine iO ?_ | refine iJ ?_ _)); exact BK374.out⟩, ⟨by (with_reducible repeat (first | refine iK ?_ _ | refine iO ?_ | refine iJ ?_ _)); refine jD ?_ NB379_398.out _; (with_reducible repeat (first | refine iK ?_ _ | refine iO ?_ | refine iJ ?_ _)); refine jD ?_ NB379_398.out _; (with_reducible repeat (first | refine iK ?_ _ | refine iO ?_ | refine iJ ?_ _)); exact BK379.out⟩, ⟨by (with_reducible repeat (first | refine iK ?_ _ | refine iO ?_ | refine iJ ?_ _)); refine jD ?_ NB390_398.out _; (with_reducible repeat (first | refine iK ?_ _ | refine iO ?_ | refine iJ ?_ _)); refine jD ?_ NB390_398.out _; (with_reducible repeat (first | refine iK ?_ _ | refine iO ?_ | refine iJ ?_ _)); exact BK390.out⟩, ⟨by (with_reducible repeat (first | refine iK ?_ _ | refine iO ?_ | refine iJ ?_ _)); refine jC (cs := #[.int .u32 t393, .slice none 0 0]) ?_ 1 _ rfl; (with_reducible repeat (first | refine iK ?_ _ | refine iO ?_ | refine iJ ?_ _)); refine jC (cs := #[.int .u32 0, .slice none 0 0]) ?_ 0 _ rfl; (with_reducible repeat (first | refine iK ?_ _ | refine iO ?_ | refine iJ ?_ _)); exact BK398.out⟩, ⟨by repeat (first | (with_reducible first | exact HB.out | apply iF | apply iD | apply iG | refine iE ?_ GE374.out | refine iE ?_ GE379.out | refine iE ?_ GE390.out | refine iE ?_ GE398.out) | exact HB.out)⟩⟩
              · rw [if_neg c39] at H
                have c39b0 : (t397 == 0) = false := beq_eq_false_iff_ne.mpr c39
                have c39b1 : (t397 != 0) = true := bne_iff_ne.mpr c39
                (first | rw [c39b0] | (simp only [iW, iY]; rw [c39b0]) | skip)
                have H' := iC.mk H
                clear H
                go_wp2
                go_meet
                case rel => exact ⟨_, (true), (by first | rfl | (simp; done) | (simp [*]; done)), H', ⟨by first | omega | exact Nat.le_refl _⟩, ⟨by (with_reducible repeat (first | apply Kd.R_alloc | apply Kd.R_drewN | apply Kd.R_drew)); exact Kd.R_mono (Kd.R_far (p := ⟨gb398, 1, none⟩) (Kd.R_far (p := ⟨gb398, 0, none⟩) (Kd.R_types HO378.out BK398.out (by decide)) (fun _ hk => hk.2) (.int .u32 t393)) (fun _ hk => hk.2) (.slice Ao37 t394.length co37)) (fun _ hk => ⟨hk.1.1, hk.1.2⟩)⟩, ⟨by (with_reducible repeat (first | apply Kd.R_alloc | apply Kd.R_drewN | apply Kd.R_drew)); exact Kd.R_mono (Kd.R_far (p := ⟨gb398, 1, none⟩) (Kd.R_far (p := ⟨gb398, 0, none⟩) (Kd.R_types HO388.out BK398.out (by decide)) (fun _ hk => hk.2) (.int .u32 t393)) (fun _ hk => hk.2) (.slice Ao37 t394.length co37)) (fun _ hk => ⟨hk.1.1, hk.1.2⟩)⟩, ⟨by (with_reducible repeat (first | apply Kd.R_alloc | apply Kd.R_drewN | apply Kd.R_drew)); exact Kd.R_mono (Kd.R_far (p := ⟨gb398, 1, none⟩) (Kd.R_far (p := ⟨gb398, 0, none⟩) (Kd.R_types HO396.out BK398.out (by decide)) (fun _ hk => hk.2) (.int .u32 t393)) (fun _ hk => hk.2) (.slice Ao37 t394.length co37)) (fun _ hk => ⟨hk.1.1, hk.1.2⟩)⟩, ⟨by (with_reducible repeat (first | refine iK ?_ _ | refine iO ?_ | refine iJ ?_ _)); refine jD ?_ NB374_398.out _; (with_reducible repeat (first | refine iK ?_ _ | refine iO ?_ | refine iJ ?_ _)); refine jD ?_ NB374_398.out _; (with_reducible repeat (first | refine iK ?_ _ | refine iO ?_ | refine iJ ?_ _)); exact BK374.out⟩, ⟨by (with_reducible repeat (first | refine iK ?_ _ | refine iO ?_ | refine iJ ?_ _)); refine jD ?_ NB379_398.out _; (with_reducible repeat (first | refine iK ?_ _ | refine iO ?_ | refine iJ ?_ _)); refine jD ?_ NB379_398.out _; (with_reducible repeat (first | refine iK ?_ _ | refine iO ?_ | refine iJ ?_ _)); exact BK379.out⟩, ⟨by (with_reducible repeat (first | refine iK ?_ _ | refine iO ?_ | refine iJ ?_ _)); refine jD ?_ NB390_398.out _; (with_reducible repeat (first | refine iK ?_ _ | refine iO ?_ | refine iJ ?_ _)); refine jD ?_ NB390_398.out _; (with_reducible repeat (first | refine iK ?_ _ | refine iO ?_ | refine iJ ?_ _)); exact BK390.out⟩, ⟨by (with_reducible repeat (first | refine iK ?_ _ | refine iO ?_ | refine iJ ?_ _)); refine jC (cs := #[.int .u32 t393, .slice none 0 0]) ?_ 1 _ rfl; (with_reducible repeat (first | refine iK ?_ _ | refine iO ?_ | refine iJ ?_ _)); refine jC (cs := #[.int .u32 0, .slice none 0 0]) ?_ 0 _ rfl; (with_reducible repeat (first | refine iK ?_ _ | refine iO ?_ | refine iJ ?_ _)); exact BK398.out⟩, ⟨by repeat (first | (with_reducible first | exact HB.out | apply iF | apply iD | apply iG | refine iE ?_ GE374.out | refine iE ?_ GE379.out | refine iE ?_ GE390.out | refine iE ?_ GE398.out) | exact HB.out)⟩⟩
            case rest =>
              clear HC13
              try clear c2
              try clear p2
              try clear c3
              try clear p3
              try clear q3
              try clear hx3
              try clear qi3
              try clear c4
              try clear c5
              try clear p6
              try clear c27
              try clear c28
              try clear c30
              try clear c39
              try clear c39b0
              try clear c39b1
              try clear p39
              try clear q39
              try clear hx39
              try clear qi39
              try clear c40
              try clear c40b0
              try clear c40b1
              try clear c41
              try clear c42
              try clear c43
              try clear c45
              try clear c46
              try clear c48
              try clear c49
              try clear c50
              try clear c52
              try clear c53
              try clear hcz24_0
              try clear hcz24_1
              try clear hcz29_0
              try clear hcz29_1
              try clear hcz44_0
              try clear hcz44_1
              try clear hcz47_0
              try clear hcz47_1
              try clear hcz51_0
              try clear hcz51_1
              try clear hcz54_0
              try clear hcz54_1
              try clear hfz24_0
              try clear hfz24_1
              try clear hfz29_0
              try clear hfz29_1
              try clear hfz44_0
              try clear hfz44_1
              try clear hfz47_0
              try clear hfz47_1
              try clear hfz51_0
              try clear hfz51_1
              try clear hfz54_0
              try clear hfz54_1
              try clear hx392_0
              try clear p392
              try clear q392
              obtain ⟨kq, x103_12, rfl, HA, HJ12, HO_380001, HO_391001, HO_399001, BK374, BK379, BK390, BK398, HB⟩ := hcut
              cases kq with
              | zero => exact absurd HA.out (by simp [stratumlaw12_SpansBack.j0])
              | succ kj12 =>
                have H := HA.out
                clear HA
                simp only [stratumlaw12_SpansBack.j0] at H
                by_cases c55 : x103_12 = true
                · subst c55
                  have H1 : (some false) = some r := by rw [if_pos rfl] at H; exact H
                  clear H
                  have H := H1
                  clear H1
                  obtain rfl := Option.some.inj H
                  go_wp2
                  go_ret
                  exact ⟨by first | rfl | (simp [iR, iQ] <;> rfl) | (simp [*, iR, iQ] <;> rfl), by repeat (first | (with_reducible first | exact HB.out | apply iF | apply iD | apply iG | refine iE ?_ GE374.out | refine iE ?_ GE379.out | refine iE ?_ GE390.out | refine iE ?_ GE398.out) | exact HB.out)⟩
                · replace c55 := Bool.eq_false_iff.mpr c55
                  subst c55
                  have H1 : (stratumlaw12_SpansBack.l0 kj12 0 t375 t376 t393 t394) = some r := by rw [if_neg (show ¬ (false = true) by decide)] at H; exact H
                  clear H
                  have H := H1
                  clear H1
                  have H' := iC.mk H
                  clear H
                  go_wp2
                  go_loopg [17] kj12 (fun kq v17 w' => ∃ (x17_2 : Int), v17 = .int .i64 x17_2 ∧ iC (stratumlaw12_SpansBack.l0 kq x17_2 t375 t376 t393 t394 = some r) ∧ iC (kq ≤ kj12) ∧ iC (Kd.R k60 60 w' w.heap.size (fun k_ => some k_ ≠ ((.slice Ao30 t386.length co30) : Value).ownBlock ∧ some k_ ≠ ((.slice Ao37 t394.length co37) : Value).ownBlock) (.slice Ao19 t376.length co19) t376) ∧ iC (Kd.R k60 60 w' w.heap.size (fun k_ => some k_ ≠ ((.slice Ao19 t376.length co19) : Value).ownBlock ∧ some k_ ≠ ((.slice Ao37 t394.length co37) : Value).ownBlock) (.slice Ao30 t386.length co30) t386) ∧ iC (Kd.R k60 60 w' w.heap.size (fun k_ => some k_ ≠ ((.slice Ao19 t376.length co19) : Value).ownBlock ∧ some k_ ≠ ((.slice Ao30 t386.length co30) : Value).ownBlock) (.slice Ao37 t394.length co37) t394) ∧ iC (w'.heap[gb374]? = some (.cells #[.int .u16 a2_0, .int .u16 a2_1, .int .u8 a2_2] 55 (0, 0))) ∧ iC (w'.heap[gb379]? = some (.cells #[.int .u32 t375, (.slice Ao19 t376.length co19)] 42 (0, 0))) ∧ iC (w'.heap[gb390]? = some (.cells #[.int .u32 t385, (.slice Ao30 t386.length co30)] 42 (0, 0))) ∧ iC (w'.heap[gb398]? = some (.cells #[.int .u32 t393, (.slice Ao37 t394.length co37)] 42 (0, 0))) ∧ iC (Below w.heap.size w w'))
                  case atStart => exact ⟨(0), (by first | rfl | (simp; done) | (simp [*]; done)), H', ⟨Nat.le_refl _⟩, ⟨by (with_reducible repeat (first | apply Kd.R_alloc | apply Kd.R_drewN | apply Kd.R_drew)); exact HO_380001.out⟩, ⟨by (with_reducible repeat (first | apply Kd.R_alloc | apply Kd.R_drewN | apply Kd.R_drew)); exact HO_391001.out⟩, ⟨by (with_reducible repeat (first | apply Kd.R_alloc | apply Kd.R_drewN | apply Kd.R_drew)); exact HO_399001.out⟩, ⟨bk_ BK374.out⟩, ⟨bk_ BK379.out⟩, ⟨bk_ BK390.out⟩, ⟨bk_ BK398.out⟩, ⟨by repeat (first | (with_reducible first | exact HB.out | apply iF | apply iD | apply iG | refine iE ?_ GE374.out | refine iE ?_ GE379.out | refine iE ?_ GE390.out | refine iE ?_ GE398.out) | exact HB.out)⟩⟩
                  case round =>
                    clear H'
                    try clear c2
                    try clear p2
                    try clear c3
                    try clear p3
                    try clear q3
                    try clear hx3
                    try clear qi3
                    try clear c4
                    try clear c5
                    try clear p6
                    try clear c27
                    try clear c28
                    try clear c30
                    try clear c39
                    try clear c39b0
                    try clear c39b1
                    try clear p39
                    try clear q39
                    try clear hx39
                    try clear qi39
                    try clear c40
                    try clear c40b0
                    try clear c40b1
                    try clear c41
                    try clear c42
                    try clear c43
                    try clear c45
                    try clear c46
                    try clear c48
                    try clear c49
                    try clear c50
                    try clear c52
                    try clear c53
                    try clear c55
                    try clear hcz24_0
                    try clear hcz24_1
                    try clear hcz29_0
                    try clear hcz29_1
                    try clear hcz44_0
                    try clear hcz44_1
                    try clear hcz47_0
                    try clear hcz47_1
                    try clear hcz51_0
                    try clear hcz51_1
                    try clear hcz54_0
                    try clear hcz54_1
                    try clear hfz24_0
                    try clear hfz24_1
                    try clear hfz29_0
                    try clear hfz29_1
                    try clear hfz44_0
                    try clear hfz44_1
                    try clear hfz47_0
                    try clear hfz47_1
                    try clear hfz51_0
                    try clear hfz51_1
                    try clear hfz54_0
                    try clear hfz54_1
                    try clear hx392_0
                    try clear p2
                    try clear p3
                    try clear p39
                    try clear p392
                    try clear p6
                    try clear q3
                    try clear q39
                    try clear q392
                    obtain ⟨x17_2, rfl, HA, HK2, HO_380001, HO_391001, HO_399001, BK374, BK379, BK390, BK398, HB⟩ := hrel
                    cases gk with
                    | zero => exact absurd HA.out (by simp [stratumlaw12_SpansBack.l0])
                    | succ k2 =>
                      have H := HA.out
                      clear HA
                      simp only [stratumlaw12_SpansBack.l0] at H
                      by_cases c56 : x17_2 < (t394.length : Int)
                      · rw [if_pos c56] at H
                        have c56b0 : decide (x17_2 < (t394.length : Int)) = true := decide_eq_true c56
                        clear c56
                        by_cases c57 : 0 ≤ x17_2
                        · rw [if_pos c57] at H
                          have c57b0 : decide (0 ≤ x17_2) = true := decide_eq_true c57
                          clear c57
                          by_cases c58 : x17_2 < (t376.length : Int)
                          · rw [if_pos c58] at H
                            have c58b0 : decide (x17_2 < (t376.length : Int)) = true := decide_eq_true c58
                            clear c58
                            by_cases c59 : (!(((iU t394 x17_2).f0) == ((iU t376 x17_2).f0)) || (!(((iU t394 x17_2).f1) == ((iU t376 x17_2).f1)))) = true
                            · rw [if_pos c59] at H
                              have c59b0 : (!(((iU t394 x17_2).f0) == ((iU t376 x17_2).f0)) || (!(((iU t394 x17_2).f1) == ((iU t376 x17_2).f1)))) = true := c59
                              clear c59
                              obtain rfl := Option.some.inj H
                              have hnb60 := NB398_374.out
                              have hnc60 := NB374_398.out
                              have hnb61 := NB398_379.out
                              have hnc61 := NB379_398.out
                              have hnb62 := NB398_390.out
                              have hnc62 := NB390_398.out
                              have hcz63_0 : wr.cell? ⟨gb398, 0, none⟩ = some (.int .u32 t393) := (iI BK398.out 0).trans rfl
                              have hcz63_1 : wr.cell? ⟨gb398, 1, none⟩ = some (.slice Ao37 t394.length co37) := (iI BK398.out 1).trans rfl
                              have hfz63_0 := iH BK398.out 0
                              have hfz63_1 := iH BK398.out 1
                              try go_wp2
                              have n0_ := iC.mk (Kd.R_drew HO_380001.out)
                              have n1_ := iC.mk (Kd.R_drew HO_391001.out)
                              have n2_ := iC.mk (Kd.R_drew HO_399001.out)
                              have n3_ := iC.mk (iO BK374.out)
                              have n4_ := iC.mk (iO BK379.out)
                              have n5_ := iC.mk (iO BK390.out)
                              have n6_ := iC.mk (iO BK398.out)
                              have n7_ := iC.mk (iG HB.out)
                              clear HO_380001
                              clear HO_391001
                              clear HO_399001
                              clear BK374
                              clear BK379
                              clear BK390
                              clear BK398
                              clear HB
                              have HO_380001 := n0_
                              have HO_391001 := n1_
                              have HO_399001 := n2_
                              have BK374 := n3_
                              have BK379 := n4_
                              have BK390 := n5_
                              have BK398 := n6_
                              have HB := n7_
                              clear n0_ n1_ n2_ n3_ n4_ n5_ n6_ n7_
                              have p399 : 0 ≤ (x17_2 : Int) := of_decide_eq_true asm_
                              have q399 : x17_2 < (t394.length : Int) := of_decide_eq_true asm_
                              obtain ⟨ad399, e399, hx399_0, hx399_1⟩ := jK (Kd.R_reads' HO_399001.out).2.2 x17_2 p399 q399
                              cases e399
                              replace p399 := eq_true p399
                              replace q399 := eq_true q399
                              have p400 : 0 ≤ (x17_2 : Int) := of_decide_eq_true asm_
                              have q400 : x17_2 < (t376.length : Int) := of_decide_eq_true asm_
                              obtain ⟨ad400, e400, hx400_0, hx400_1⟩ := jK (Kd.R_reads' HO_380001.out).2.2 x17_2 p400 q400
                              cases e400
                              replace p400 := eq_true p400
                              replace q400 := eq_true q400
                              refine kW (n := 11) (S := fun w' => w'.cell? ⟨gb398, 0, none⟩ = some (.int .u32 t393) ∧ w'.cell? ⟨gb398, 1, none⟩ = some (.slice (some ad399) t394.length co37) ∧ w'.cell? ⟨gb379, 0, none⟩ = some (.int .u32 t375) ∧ w'.cell? ⟨gb379, 1, none⟩ = some (.slice (some ad400) t376.length co19) ∧ w'.cell? (ad399.add ((x17_2).toNat * 2)) = some (.int .i64 ((iU t394 x17_2).f0)) ∧ w'.cell? ⟨(ad399.add ((x17_2).toNat * 2)).block, (ad399.add ((x17_2).toNat * 2)).off + 1, none⟩ = some (.int .i64 ((iU t394 x17_2).f1)) ∧ w'.cell? (ad400.add ((x17_2).toNat * 2)) = some (.int .i64 ((iU t376 x17_2).f0)) ∧ w'.cell? ⟨(ad400.add ((x17_2).toNat * 2)).block, (ad400.add ((x17_2).toNat * 2)).off + 1, none⟩ = some (.int .i64 ((iU t376 x17_2).f1))) (ds := []) #[false, false, false, false, false, false, false, false, false, false, false] (by kernel_rfl) rfl rfl ⟨(iI BK398.out 0).trans rfl, (iI BK398.out 1).trans rfl, (iI BK379.out 0).trans rfl, (iI BK379.out 1).trans rfl, hx399_0, hx399_1, hx400_0, hx400_1⟩ (fun hHeld => ?_); refine jY stratumlaw12_SpansBack.tab18 stratumlaw12_SpansBack.bits18 (fun HT_ HW_ => ?_)
                              generalize wr.drew = w64 at HO_380001 HO_391001 HO_399001 BK374 BK379 BK390 BK398 HB hx399_0 hx399_1 hx400_0 hx400_1 hHeld ⊢
                              refine jH (i := 0) (N := some 111) (v := ?_) (a' := ?_) #[true, false, false, false, false, false, false, false, false, false, false] rfl rfl (iZ HT_.out (by kernel_rfl)) (fun _ _ _ h => h) (Or.inl ⟨by rfl, ?_⟩) ?_ ?_
                              rotate_left
                              · intro w'
                                go_simp
                                with_reducible rfl
                              rotate_left
                              · simp only [Act.put, List.setIfInBounds_toArray, List.set_cons_zero, List.set_cons_succ, iW, iY]
                                rfl
                              refine jH (i := 2) (N := some 113) (v := ?_) (a' := ?_) #[true, false, true, false, false, false, false, false, false, false, false] rfl rfl (iZ HT_.out (by kernel_rfl)) (fun _ _ _ h => h) (Or.inl ⟨by rfl, ?_⟩) ?_ ?_
                              rotate_left
                              · intro w'
                                go_simp
                                with_reducible rfl
                              rotate_left
                              · simp only [Act.put, List.setIfInBounds_toArray, List.set_cons_zero, List.set_cons_succ, iW, iY]
                                rfl
                              refine jH (i := 5) (N := some 116) (v := ?_) (a' := ?_) #[true, false, true, false, false, true, false, false, false, false, false] rfl rfl (iZ HT_.out (by kernel_rfl)) (fun _ _ _ h => h) (Or.inl ⟨by rfl, ?_⟩) ?_ ?_
                              rotate_left
                              · intro w'
                                go_simp
                                with_reducible rfl
                              rotate_left
                              · simp only [Act.put, List.setIfInBounds_toArray, List.set_cons_zero, List.set_cons_succ, iW, iY]
                                rfl
                              refine jH (i := 7) (N := some 118) (v := ?_) (a' := ?_) #[true, false, true, false, false, true, false, true, false, false, false] rfl rfl (iZ HT_.out (by kernel_rfl)) (fun _ _ _ h => h) (Or.inl ⟨by rfl, ?_⟩) ?_ ?_
                              rotate_left
                              · intro w'
                                go_simp
                                with_reducible rfl
                              rotate_left
                              · simp only [Act.put, List.setIfInBounds_toArray, List.set_cons_zero, List.set_cons_succ, iW, iY]
                                rfl
                              refine take_ (i := 1) (N := some 112) (v := ?_) (a' := ?_) #[true, true, true, false, false, true, false, true, false, false, false] rfl rfl (jL HT_.out HW_.out (by kernel_rfl)) (fun _ _ _ h => h) (Or.inl ⟨by rfl, ?_⟩) hHeld ?_ ?_
                              rotate_left
                              · rintro w' ⟨s0, s1, s2, s3, s4, s5, s6, s7⟩
                                go_simp
                                with_reducible rfl
                              rotate_left
                              · simp only [Act.put, List.setIfInBounds_toArray, List.set_cons_zero, List.set_cons_succ, iW, iY]
                                rfl
                              refine jH (i := 3) (N := some 114) (v := ?_) (a' := ?_) #[true, true, true, true, false, true, false, true, false, false, false] rfl rfl (iZ HT_.out (by kernel_rfl)) (fun _ _ _ h => h) (Or.inl ⟨by rfl, ?_⟩) ?_ ?_
                              rotate_left
                              · intro w'
                                go_simp
                                with_reducible rfl
                              rotate_left
                              · simp only [Act.put, List.setIfInBounds_toArray, List.set_cons_zero, List.set_cons_succ, iW, iY]
                                rfl
                              refine take_ (i := 4) (N := some 115) (v := ?_) (a' := ?_) #[true, true, true, true, true, true, false, true, false, false, false] rfl rfl (jL HT_.out HW_.out (by kernel_rfl)) (fun _ _ _ h => h) (Or.inl ⟨by rfl, ?_⟩) hHeld ?_ ?_
                              rotate_left
                              · rintro w' ⟨s0, s1, s2, s3, s4, s5, s6, s7⟩
                                go_simp
                                with_reducible rfl
                              rotate_left
                              · simp only [Act.put, List.setIfInBounds_toArray, List.set_cons_zero, List.set_cons_succ, iW, iY]
                                rfl
                              refine take_ (i := 6) (N := some 117) (v := ?_) (a' := ?_) #[true, true, true, true, true, true, true, true, false, false, false] rfl rfl (jL HT_.out HW_.out (by kernel_rfl)) (fun _ _ _ h => h) (Or.inl ⟨by rfl, ?_⟩) hHeld ?_ ?_
                              rotate_left
                              · rintro w' ⟨s0, s1, s2, s3, s4, s5, s6, s7⟩
                                go_simp
                                with_reducible rfl
                              rotate_left
                              · simp only [Act.put, List.setIfInBounds_toArray, List.set_cons_zero, List.set_cons_succ, iW, iY]
                                rfl
                              refine jH (i := 8) (N := some 119) (v := ?_) (a' := ?_) #[true, true, true, true, true, true, true, true, true, false, false] rfl rfl (iZ HT_.out (by kernel_rfl)) (fun _ _ _ h => h) (Or.inl ⟨by rfl, ?_⟩) ?_ ?_
                              rotate_left
                              · intro w'
                                go_simp
                                with_reducible rfl
                              rotate_left
                              · simp only [Act.put, List.setIfInBounds_toArray, List.set_cons_zero, List.set_cons_succ, iW, iY]
                                rfl
                              refine take_ (i := 9) (N := some 120) (v := ?_) (a' := ?_) #[true, true, true, true, true, true, true, true, true, true, false] rfl rfl (jL HT_.out HW_.out (by kernel_rfl)) (fun _ _ _ h => h) (Or.inl ⟨by rfl, ?_⟩) hHeld ?_ ?_
                              rotate_left
                              · rintro w' ⟨s0, s1, s2, s3, s4, s5, s6, s7⟩
                                go_simp
                                with_reducible rfl
                              rotate_left
                              · simp only [Act.put, List.setIfInBounds_toArray, List.set_cons_zero, List.set_cons_succ, iW, iY]
                                rfl
                              refine jH (i := 10) (N := some 121) (v := ?_) (a' := ?_) #[true, true, true, true, true, true, true, true, true, true, true] rfl rfl (iZ HT_.out (by kernel_rfl)) (fun _ _ _ h => h) (Or.inl ⟨by rfl, ?_⟩) ?_ ?_
                              rotate_left
                              · intro w'
                                go_simp
                                with_reducible rfl
                              rotate_left
                              · simp only [Act.put, List.setIfInBounds_toArray, List.set_cons_zero, List.set_cons_succ, iW, iY]
                                rfl
                              refine mJ (kN HT_.out (by kernel_rfl)) ?_
                              try go_wp2
                              go_ret
                              exact ⟨by first | rfl | (simp [iR, iQ] <;> rfl) | (simp [*, iR, iQ] <;> rfl), by repeat (first | (with_reducible first | exact HB.out | apply iF | apply iD | apply iG | refine iE ?_ GE374.out | refine iE ?_ GE379.out | refine iE ?_ GE390.out | refine iE ?_ GE398.out) | exact HB.out)⟩
                            · rw [if_neg c59] at H
                              have c59b0 : (!(((iU t394 x17_2).f0) == ((iU t376 x17_2).f0)) || (!(((iU t394 x17_2).f1) == ((iU t376 x17_2).f1)))) = false := by simpa using c59
                              clear c59
                              have H' := iC.mk H
                              clear H
                              have hnb65 := NB398_374.out
                              have hnc65 := NB374_398.out
                              have hnb66 := NB398_379.out
                              have hnc66 := NB379_398.out
                              have hnb67 := NB398_390.out
                              have hnc67 := NB390_398.out
                              have hcz68_0 : wr.cell? ⟨gb398, 0, none⟩ = some (.int .u32 t393) := (iI BK398.out 0).trans rfl
                              have hcz68_1 : wr.cell? ⟨gb398, 1, none⟩ = some (.slice Ao37 t394.length co37) := (iI BK398.out 1).trans rfl
                              have hfz68_0 := iH BK398.out 0
                              have hfz68_1 := iH BK398.out 1
                              try go_wp2
                              have n0_ := iC.mk (Kd.R_drew HO_380001.out)
                              have n1_ := iC.mk (Kd.R_drew HO_391001.out)
                              have n2_ := iC.mk (Kd.R_drew HO_399001.out)
                              have n3_ := iC.mk (iO BK374.out)
                              have n4_ := iC.mk (iO BK379.out)
                              have n5_ := iC.mk (iO BK390.out)
                              have n6_ := iC.mk (iO BK398.out)
                              have n7_ := iC.mk (iG HB.out)
                              clear HO_380001
                              clear HO_391001
                              clear HO_399001
                              clear BK374
                              clear BK379
                              clear BK390
                              clear BK398
                              clear HB
                              have HO_380001 := n0_
                              have HO_391001 := n1_
                              have HO_399001 := n2_
                              have BK374 := n3_
                              have BK379 := n4_
                              have BK390 := n5_
                              have BK398 := n6_
                              have HB := n7_
                              clear n0_ n1_ n2_ n3_ n4_ n5_ n6_ n7_
                              have p399 : 0 ≤ (x17_2 : Int) := of_decide_eq_true asm_
                              have q399 : x17_2 < (t394.length : Int) := of_decide_eq_true asm_
                              obtain ⟨ad399, e399, hx399_0, hx399_1⟩ := jK (Kd.R_reads' HO_399001.out).2.2 x17_2 p399 q399
                              cases e399
                              replace p399 := eq_true p399
                              replace q399 := eq_true q399
                              have p400 : 0 ≤ (x17_2 : Int) := of_decide_eq_true asm_
                              have q400 : x17_2 < (t376.length : Int) := of_decide_eq_true asm_
                              obtain ⟨ad400, e400, hx400_0, hx400_1⟩ := jK (Kd.R_reads' HO_380001.out).2.2 x17_2 p400 q400
                              cases e400
                              replace p400 := eq_true p400
                              replace q400 := eq_true q400
                              refine kW (n := 11) (S := fun w' => w'.cell? ⟨gb398, 0, none⟩ = some (.int .u32 t393) ∧ w'.cell? ⟨gb398, 1, none⟩ = some (.slice (some ad399) t394.length co37) ∧ w'.cell? ⟨gb379, 0, none⟩ = some (.int .u32 t375) ∧ w'.cell? ⟨gb379, 1, none⟩ = some (.slice (some ad400) t376.length co19) ∧ w'.cell? (ad399.add ((x17_2).toNat * 2)) = some (.int .i64 ((iU t394 x17_2).f0)) ∧ w'.cell? ⟨(ad399.add ((x17_2).toNat * 2)).block, (ad399.add ((x17_2).toNat * 2)).off + 1, none⟩ = some (.int .i64 ((iU t394 x17_2).f1)) ∧ w'.cell? (ad400.add ((x17_2).toNat * 2)) = some (.int .i64 ((iU t376 x17_2).f0)) ∧ w'.cell? ⟨(ad400.add ((x17_2).toNat * 2)).block, (ad400.add ((x17_2).toNat * 2)).off + 1, none⟩ = some (.int .i64 ((iU t376 x17_2).f1))) (ds := []) #[false, false, false, false, false, false, false, false, false, false, false] (by kernel_rfl) rfl rfl ⟨(iI BK398.out 0).trans rfl, (iI BK398.out 1).trans rfl, (iI BK379.out 0).trans rfl, (iI BK379.out 1).trans rfl, hx399_0, hx399_1, hx400_0, hx400_1⟩ (fun hHeld => ?_); refine jY stratumlaw12_SpansBack.tab18 stratumlaw12_SpansBack.bits18 (fun HT_ HW_ => ?_)
                              generalize wr.drew = w69 at HO_380001 HO_391001 HO_399001 BK374 BK379 BK390 BK398 HB hx399_0 hx399_1 hx400_0 hx400_1 hHeld ⊢
                              refine jH (i := 0) (N := some 111) (v := ?_) (a' := ?_) #[true, false, false, false, false, false, false, false, false, false, false] rfl rfl (iZ HT_.out (by kernel_rfl)) (fun _ _ _ h => h) (Or.inl ⟨by rfl, ?_⟩) ?_ ?_
                              rotate_left
                              · intro w'
                                go_simp
                                with_reducible rfl
                              rotate_left
                              · simp only [Act.put, List.setIfInBounds_toArray, List.set_cons_zero, List.set_cons_succ, iW, iY]
                                rfl
                              refine jH (i := 2) (N := some 113) (v := ?_) (a' := ?_) #[true, false, true, false, false, false, false, false, false, false, false] rfl rfl (iZ HT_.out (by kernel_rfl)) (fun _ _ _ h => h) (Or.inl ⟨by rfl, ?_⟩) ?_ ?_
                              rotate_left
                              · intro w'
                                go_simp
                                with_reducible rfl
                              rotate_left
                              · simp only [Act.put, List.setIfInBounds_toArray, List.set_cons_zero, List.set_cons_succ, iW, iY]
                                rfl
                              refine jH (i := 5) (N := some 116) (v := ?_) (a' := ?_) #[true, false, true, false, false, true, false, false, false, false, false] rfl rfl (iZ HT_.out (by kernel_rfl)) (fun _ _ _ h => h) (Or.inl ⟨by rfl, ?_⟩) ?_ ?_
                              rotate_left
                              · intro w'
                                go_simp
                                with_reducible rfl
                              rotate_left
                              · simp only [Act.put, List.setIfInBounds_toArray, List.set_cons_zero, List.set_cons_succ, iW, iY]
                                rfl
                              refine jH (i := 7) (N := some 118) (v := ?_) (a' := ?_) #[true, false, true, false, false, true, false, true, false, false, false] rfl rfl (iZ HT_.out (by kernel_rfl)) (fun _ _ _ h => h) (Or.inl ⟨by rfl, ?_⟩) ?_ ?_
                              rotate_left
                              · intro w'
                                go_simp
                                with_reducible rfl
                              rotate_left
                              · simp only [Act.put, List.setIfInBounds_toArray, List.set_cons_zero, List.set_cons_succ, iW, iY]
                                rfl
                              refine take_ (i := 1) (N := some 112) (v := ?_) (a' := ?_) #[true, true, true, false, false, true, false, true, false, false, false] rfl rfl (jL HT_.out HW_.out (by kernel_rfl)) (fun _ _ _ h => h) (Or.inl ⟨by rfl, ?_⟩) hHeld ?_ ?_
                              rotate_left
                              · rintro w' ⟨s0, s1, s2, s3, s4, s5, s6, s7⟩
                                go_simp
                                with_reducible rfl
                              rotate_left
                              · simp only [Act.put, List.setIfInBounds_toArray, List.set_cons_zero, List.set_cons_succ, iW, iY]
                                rfl
                              refine jH (i := 3) (N := some 114) (v := ?_) (a' := ?_) #[true, true, true, true, false, true, false, true, false, false, false] rfl rfl (iZ HT_.out (by kernel_rfl)) (fun _ _ _ h => h) (Or.inl ⟨by rfl, ?_⟩) ?_ ?_
                              rotate_left
                              · intro w'
                                go_simp
                                with_reducible rfl
                              rotate_left
                              · simp only [Act.put, List.setIfInBounds_toArray, List.set_cons_zero, List.set_cons_succ, iW, iY]
                                rfl
                              refine take_ (i := 4) (N := some 115) (v := ?_) (a' := ?_) #[true, true, true, true, true, true, false, true, false, false, false] rfl rfl (jL HT_.out HW_.out (by kernel_rfl)) (fun _ _ _ h => h) (Or.inl ⟨by rfl, ?_⟩) hHeld ?_ ?_
                              rotate_left
                              · rintro w' ⟨s0, s1, s2, s3, s4, s5, s6, s7⟩
                                go_simp
                                with_reducible rfl
                              rotate_left
                              · simp only [Act.put, List.setIfInBounds_toArray, List.set_cons_zero, List.set_cons_succ, iW, iY]
                                rfl
                              refine take_ (i := 6) (N := some 117) (v := ?_) (a' := ?_) #[true, true, true, true, true, true, true, true, false, false, false] rfl rfl (jL HT_.out HW_.out (by kernel_rfl)) (fun _ _ _ h => h) (Or.inl ⟨by rfl, ?_⟩) hHeld ?_ ?_
                              rotate_left
                              · rintro w' ⟨s0, s1, s2, s3, s4, s5, s6, s7⟩
                                go_simp
                                with_reducible rfl
                              rotate_left
                              · simp only [Act.put, List.setIfInBounds_toArray, List.set_cons_zero, List.set_cons_succ, iW, iY]
                                rfl
                              refine jH (i := 8) (N := some 119) (v := ?_) (a' := ?_) #[true, true, true, true, true, true, true, true, true, false, false] rfl rfl (iZ HT_.out (by kernel_rfl)) (fun _ _ _ h => h) (Or.inl ⟨by rfl, ?_⟩) ?_ ?_
                              rotate_left
                              · intro w'
                                go_simp
                                with_reducible rfl
                              rotate_left
                              · simp only [Act.put, List.setIfInBounds_toArray, List.set_cons_zero, List.set_cons_succ, iW, iY]
                                rfl
                              refine take_ (i := 9) (N := some 120) (v := ?_) (a' := ?_) #[true, true, true, true, true, true, true, true, true, true, false] rfl rfl (jL HT_.out HW_.out (by kernel_rfl)) (fun _ _ _ h => h) (Or.inl ⟨by rfl, ?_⟩) hHeld ?_ ?_
                              rotate_left
                              · rintro w' ⟨s0, s1, s2, s3, s4, s5, s6, s7⟩
                                go_simp
                                with_reducible rfl
                              rotate_left
                              · simp only [Act.put, List.setIfInBounds_toArray, List.set_cons_zero, List.set_cons_succ, iW, iY]
                                rfl
                              refine jH (i := 10) (N := some 121) (v := ?_) (a' := ?_) #[true, true, true, true, true, true, true, true, true, true, true] rfl rfl (iZ HT_.out (by kernel_rfl)) (fun _ _ _ h => h) (Or.inl ⟨by rfl, ?_⟩) ?_ ?_
                              rotate_left
                              · intro w'
                                go_simp
                                with_reducible rfl
                              rotate_left
                              · simp only [Act.put, List.setIfInBounds_toArray, List.set_cons_zero, List.set_cons_succ, iW, iY]
                                rfl
                              refine mJ (kN HT_.out (by kernel_rfl)) ?_
                              try go_wp2
                              go_roundg k2
                              case measure => have := HJ12.out; have := HK2.out; omega
                              case rel => exact ⟨(wrap64 (x17_2 + 1)), (by first | rfl | (simp; done) | (simp [*]; done)), H', ⟨by have := HJ12.out; have := HK2.out; omega⟩, ⟨by (with_reducible repeat (first | apply Kd.R_alloc | apply Kd.R_drewN | apply Kd.R_drew)); exact HO_380001.out⟩, ⟨by (with_reducible repeat (first | apply Kd.R_alloc | apply Kd.R_drewN | apply Kd.R_drew)); exact HO_391001.out⟩, ⟨by (with_reducible repeat (first | apply Kd.R_alloc | apply Kd.R_drewN | apply Kd.R_drew)); exact HO_399001.out⟩, ⟨bk_ BK374.out⟩, ⟨bk_ BK379.out⟩, ⟨bk_ BK390.out⟩, ⟨bk_ BK398.out⟩, ⟨by repeat (first | (with_reducible first | exact HB.out | apply iF | apply iD | apply iG | refine iE ?_ GE374.out | refine iE ?_ GE379.out | refine iE ?_ GE390.out | refine iE ?_ GE398.out) | exact HB.out)⟩⟩
                          · rw [if_neg c58] at H
                            exact absurd H (by simp)
                        · rw [if_neg c57] at H
                          exact absurd H (by simp)
                      · rw [if_neg c56] at H
                        have c56b0 : decide (x17_2 < (t394.length : Int)) = false := decide_eq_false c56
                        clear c56
                        replace H := Option.bind_eq_some_iff.mp H
                        obtain ⟨t401, A700, H⟩ := H
                        replace H : (if t401 = true then ((spans_Same.f k2 t393 t394 t375 t376).bind fun t402 => (some (!t402))) else (some false)) = some r := H
                        have A70 := iC.mk A700
                        clear A700
                        by_cases c71 : t401 = true
                        · subst c71
                          have H1 : ((spans_Same.f k2 t393 t394 t375 t376).bind fun t402 => (some (!t402))) = some r := by rw [if_pos rfl] at H; exact H
                          clear H
                          have H := H1
                          clear H1
                          replace H := Option.bind_eq_some_iff.mp H
                          obtain ⟨t402, A720, H⟩ := H
                          replace H : (some (!t402)) = some r := H
                          have A72 := iC.mk A720
                          clear A720
                          obtain rfl := Option.some.inj H
                          have hnb73 := NB398_374.out
                          have hnc73 := NB374_398.out
                          have hnb74 := NB398_379.out
                          have hnc74 := NB379_398.out
                          have hnb75 := NB398_390.out
                          have hnc75 := NB390_398.out
                          have hcz76_0 : wr.cell? ⟨gb398, 0, none⟩ = some (.int .u32 t393) := (iI BK398.out 0).trans rfl
                          have hcz76_1 : wr.cell? ⟨gb398, 1, none⟩ = some (.slice Ao37 t394.length co37) := (iI BK398.out 1).trans rfl
                          have hfz76_0 := iH BK398.out 0
                          have hfz76_1 := iH BK398.out 1
                          go_wp2_with (first | ((with_reducible refine iT (f := 29) rfl ?_); refine jG (some 122) rfl rfl Try.func29 (by kernel_rfl) rfl #[] rfl (by (try simp only [List.map_toArray, List.map_cons, List.map_nil]); first | done | rfl | (simp only [List.length_drop, List.length_take]; rfl)) ?_; (with_reducible refine (stratumlaw12_known.calls k2  true _ A70.out).mono ?_); rintro e w77 ⟨rfl, hb⟩; refine ⟨_, rfl, ?_⟩; have n0_ := iC.mk (Kd.R_below (by (with_reducible repeat (first | apply Kd.R_alloc | apply Kd.R_drewN | apply Kd.R_drew)); exact HO_380001.out) hb); have n1_ := iC.mk (Kd.R_below (by (with_reducible repeat (first | apply Kd.R_alloc | apply Kd.R_drewN | apply Kd.R_drew)); exact HO_391001.out) hb); have n2_ := iC.mk (Kd.R_below (by (with_reducible repeat (first | apply Kd.R_alloc | apply Kd.R_drewN | apply Kd.R_drew)); exact HO_399001.out) hb); have n3_ := iC.mk (iL (g := gb374) (o := .cells #[.int .u16 a2_0, .int .u16 a2_1, .int .u8 a2_2] 55 (0, 0)) (bk_ BK374.out) hb); have n4_ := iC.mk (iL (g := gb379) (o := .cells #[.int .u32 t375, .slice Ao19 t376.length co19] 42 (0, 0)) (bk_ BK379.out) hb); have n5_ := iC.mk (iL (g := gb390) (o := .cells #[.int .u32 t385, .slice Ao30 t386.length co30] 42 (0, 0)) (bk_ BK390.out) hb); have n6_ := iC.mk (iL (g := gb398) (o := .cells #[.int .u32 t393, .slice Ao37 t394.length co37] 42 (0, 0)) (bk_ BK398.out) hb); have n7_ := iC.mk (iM (by repeat (first | (with_reducible first | exact HB.out | apply iF | apply iD | apply iG | refine iE ?_ GE374.out | refine iE ?_ GE379.out | refine iE ?_ GE390.out | refine iE ?_ GE398.out) | exact HB.out)) hb); clear HO_380001; clear HO_391001; clear HO_399001; clear BK374; clear BK379; clear BK390; clear BK398; clear HB; have HO_380001 := n0_; have HO_391001 := n1_; have HO_399001 := n2_; have BK374 := n3_; have BK379 := n4_; have BK390 := n5_; have BK398 := n6_; have HB := n7_; clear n0_ n1_ n2_ n3_ n4_ n5_ n6_ n7_; (try clear hb); (try clear hb2); (try clear hk); (try clear hi); have hcz78_0 : w77.cell? ⟨gb398, 0, none⟩ = some (.int .u32 t393) := (iI BK398.out 0).trans rfl; have hcz78_1 : w77.cell? ⟨gb398, 1, none⟩ = some (.slice Ao37 t394.length co37) := (iI BK398.out 1).trans rfl; have hfz78_0 := iH BK398.out 0; have hfz78_1 := iH BK398.out 1; have hnb79 := NB379_374.out; have hnc79 := NB374_379.out; have hnb80 := NB379_390.out; have hnc80 := NB390_379.out; have hcz81_0 : w77.cell? ⟨gb379, 0, none⟩ = some (.int .u32 t375) := (iI BK379.out 0).trans rfl; have hcz81_1 : w77.cell? ⟨gb379, 1, none⟩ = some (.slice Ao19 t376.length co19) := (iI BK379.out 1).trans rfl; have hfz81_0 := iH BK379.out 0; have hfz81_1 := iH BK379.out 1) | (go_at_call 31; (with_reducible refine (spans_Same.calls k2 t393 _ _ t394 t375 _ _ t376 t402 _ ?side1 ?side2 ?side3 ?side4 A72.out).mono ?_); (case side1 => repeat (first | exact (Kd.R_reads' HO_399001.out).2.2 | (with_reducible refine Kd.C_alloc ?_ _) | (with_reducible refine Kd.C_drewN ?_ _) | (with_reducible refine Kd.C_drew ?_))); (case side2 => exact (Kd.R_reads' HO_399001.out).2.1); (case side3 => repeat (first | exact (Kd.R_reads' HO_380001.out).2.2 | (with_reducible refine Kd.C_alloc ?_ _) | (with_reducible refine Kd.C_drewN ?_ _) | (with_reducible refine Kd.C_drew ?_))); (case side4 => exact (Kd.R_reads' HO_380001.out).2.1); rintro e w82 ⟨rfl, hb⟩; have n0_ := iC.mk (Kd.R_below (by (with_reducible repeat (first | apply Kd.R_alloc | apply Kd.R_drewN | apply Kd.R_drew)); exact HO_380001.out) hb); have n1_ := iC.mk (Kd.R_below (by (with_reducible repeat (first | apply Kd.R_alloc | apply Kd.R_drewN | apply Kd.R_drew)); exact HO_391001.out) hb); have n2_ := iC.mk (Kd.R_below (by (with_reducible repeat (first | apply Kd.R_alloc | apply Kd.R_drewN | apply Kd.R_drew)); exact HO_399001.out) hb); have n3_ := iC.mk (iL (g := gb374) (o := .cells #[.int .u16 a2_0, .int .u16 a2_1, .int .u8 a2_2] 55 (0, 0)) (bk_ BK374.out) hb); have n4_ := iC.mk (iL (g := gb379) (o := .cells #[.int .u32 t375, .slice Ao19 t376.length co19] 42 (0, 0)) (bk_ BK379.out) hb); have n5_ := iC.mk (iL (g := gb390) (o := .cells #[.int .u32 t385, .slice Ao30 t386.length co30] 42 (0, 0)) (bk_ BK390.out) hb); have n6_ := iC.mk (iL (g := gb398) (o := .cells #[.int .u32 t393, .slice Ao37 t394.length co37] 42 (0, 0)) (bk_ BK398.out) hb); have n7_ := iC.mk (iM (by repeat (first | (with_reducible first | exact HB.out | apply iF | apply iD | apply iG | refine iE ?_ GE374.out | refine iE ?_ GE379.out | refine iE ?_ GE390.out | refine iE ?_ GE398.out) | exact HB.out)) hb); clear HO_380001; clear HO_391001; clear HO_399001; clear BK374; clear BK379; clear BK390; clear BK398; clear HB; have HO_380001 := n0_; have HO_391001 := n1_; have HO_399001 := n2_; have BK374 := n3_; have BK379 := n4_; have BK390 := n5_; have BK398 := n6_; have HB := n7_; clear n0_ n1_ n2_ n3_ n4_ n5_ n6_ n7_; (try clear hb); (try clear hb2); (try clear hk); (try clear hi)))
                          go_ret
                          exact ⟨by first | rfl | (simp [iR, iQ] <;> rfl) | (simp [*, iR, iQ] <;> rfl), by repeat (first | (with_reducible first | exact HB.out | apply iF | apply iD | apply iG | refine iE ?_ GE374.out | refine iE ?_ GE379.out | refine iE ?_ GE390.out | refine iE ?_ GE398.out) | exact HB.out)⟩
                        · replace c71 := Bool.eq_false_iff.mpr c71
                          subst c71
                          have H1 : (some false) = some r := by rw [if_neg (show ¬ (false = true) by decide)] at H; exact H
                          clear H
                          have H := H1
                          clear H1
                          obtain rfl := Option.some.inj H
                          have hnb83 := NB398_374.out
                          have hnc83 := NB374_398.out
                          have hnb84 := NB398_379.out
                          have hnc84 := NB379_398.out
                          have hnb85 := NB398_390.out
                          have hnc85 := NB390_398.out
                          have hcz86_0 : wr.cell? ⟨gb398, 0, none⟩ = some (.int .u32 t393) := (iI BK398.out 0).trans rfl
                          have hcz86_1 : wr.cell? ⟨gb398, 1, none⟩ = some (.slice Ao37 t394.length co37) := (iI BK398.out 1).trans rfl
                          have hfz86_0 := iH BK398.out 0
                          have hfz86_1 := iH BK398.out 1
                          go_wp2_with (first | ((with_reducible refine iT (f := 29) rfl ?_); refine jG (some 122) rfl rfl Try.func29 (by kernel_rfl) rfl #[] rfl (by (try simp only [List.map_toArray, List.map_cons, List.map_nil]); first | done | rfl | (simp only [List.length_drop, List.length_take]; rfl)) ?_; (with_reducible refine (stratumlaw12_known.calls k2  false _ A70.out).mono ?_); rintro e w87 ⟨rfl, hb⟩; refine ⟨_, rfl, ?_⟩; have n0_ := iC.mk (Kd.R_below (by (with_reducible repeat (first | apply Kd.R_alloc | apply Kd.R_drewN | apply Kd.R_drew)); exact HO_380001.out) hb); have n1_ := iC.mk (Kd.R_below (by (with_reducible repeat (first | apply Kd.R_alloc | apply Kd.R_drewN | apply Kd.R_drew)); exact HO_391001.out) hb); have n2_ := iC.mk (Kd.R_below (by (with_reducible repeat (first | apply Kd.R_alloc | apply Kd.R_drewN | apply Kd.R_drew)); exact HO_399001.out) hb); have n3_ := iC.mk (iL (g := gb374) (o := .cells #[.int .u16 a2_0, .int .u16 a2_1, .int .u8 a2_2] 55 (0, 0)) (bk_ BK374.out) hb); have n4_ := iC.mk (iL (g := gb379) (o := .cells #[.int .u32 t375, .slice Ao19 t376.length co19] 42 (0, 0)) (bk_ BK379.out) hb); have n5_ := iC.mk (iL (g := gb390) (o := .cells #[.int .u32 t385, .slice Ao30 t386.length co30] 42 (0, 0)) (bk_ BK390.out) hb); have n6_ := iC.mk (iL (g := gb398) (o := .cells #[.int .u32 t393, .slice Ao37 t394.length co37] 42 (0, 0)) (bk_ BK398.out) hb); have n7_ := iC.mk (iM (by repeat (first | (with_reducible first | exact HB.out | apply iF | apply iD | apply iG | refine iE ?_ GE374.out | refine iE ?_ GE379.out | refine iE ?_ GE390.out | refine iE ?_ GE398.out) | exact HB.out)) hb); clear HO_380001; clear HO_391001; clear HO_399001; clear BK374; clear BK379; clear BK390; clear BK398; clear HB; have HO_380001 := n0_; have HO_391001 := n1_; have HO_399001 := n2_; have BK374 := n3_; have BK379 := n4_; have BK390 := n5_; have BK398 := n6_; have HB := n7_; clear n0_ n1_ n2_ n3_ n4_ n5_ n6_ n7_; (try clear hb); (try clear hb2); (try clear hk); (try clear hi)))
                          go_ret
                          exact ⟨by first | rfl | (simp [iR, iQ] <;> rfl) | (simp [*, iR, iQ] <;> rfl), by repeat (first | (with_reducible first | exact HB.out | apply iF | apply iD | apply iG | refine iE ?_ GE374.out | refine iE ?_ GE379.out | refine iE ?_ GE390.out | refine iE ?_ GE398.out) | exact HB.out)⟩
          · rw [if_neg c11] at H
            have c11b0 : (t389 == 0) = false := beq_eq_false_iff_ne.mpr c11
            have c11b1 : (t389 != 0) = true := bne_iff_ne.mpr c11
            replace H := Option.bind_eq_some_iff.mp H
            obtain ⟨t391, A880, H⟩ := H
            replace H : (if t391 = true then (some (t389 == 3)) else (some false)) = some r := H
            have A88 := iC.mk A880
            clear A880
            by_cases c89 : t391 = true
            · subst c89
              have H1 : (some (t389 == 3)) = some r := by rw [if_pos rfl] at H; exact H
              clear H
              have H := H1
              clear H1
              obtain rfl := Option.some.inj H
              go_enter Try.func6, Try.ntmps6
              try go_wp2_with (first | ((with_reducible refine jE (N := 5) rfl ?_); (try (refine iV (by rfl) ?_; dsimp only)); refine jB ?hg (N := 5) ?hd (cs := #[.int .u16 a2_0, .int .u16 a2_1, .int .u8 a2_2]) (t := 55) ?hr ?_; (case hd => rfl); (case hg => rfl); (case hr => first | (go_simp; done) | (go_simp; rfl)); intro gb374 hg w90 hbox hb; have n0_ := iC.mk (iM hb_ hb); have n1_ := iC.mk (hbox); have n2_ := iC.mk ((by rw [hg]; exact (iP hb_) : w.heap.size ≤ gb374)); have n3_ := iC.mk ((by rw [hg]; exact (iP hb_) : w.heap.size ≤ gb374)); clear HB; have HB := n0_; have BK374 := n1_; have GW374 := n2_; have GE374 := n3_; clear n0_ n1_ n2_ n3_; clear hb hbox hg) | ((with_reducible refine iT (f := 24) rfl ?_); refine jG (some 24) rfl rfl Try.func24 (by kernel_rfl) rfl #[.int .i64 (wrap64 (2 + (wrap64 (Int.tmod a1 200)))), .int .i64 3, .slice A0 l0.length c0] rfl (by (try simp only [List.map_toArray, List.map_cons, List.map_nil]); first | done | rfl | (simp only [List.length_drop, List.length_take]; rfl)) ?_; (with_reducible refine (stratumlaw12_Of.calls k (wrap64 (2 + (wrap64 (Int.tmod a1 200)))) 3 _ _ l0 t375 t376 _ ?side1 ?side2 A4.out).mono ?_); (case side1 => repeat (first | exact (Kd.C_below HR0.out HB.out) | (with_reducible refine Kd.C_alloc ?_ _) | (with_reducible refine Kd.C_drewN ?_ _) | (with_reducible refine Kd.C_drew ?_))); (case side2 => exact HC0.out); rintro e w91 ⟨v377, rfl, ho0, hb⟩; refine ⟨_, rfl, ?_⟩; have n0_ := iC.mk (Kd.R_lower ho0 (iP (by repeat (first | (with_reducible first | exact HB.out | apply iF | apply iD | apply iG | refine iE ?_ GE374.out) | exact HB.out)))); have n1_ := iC.mk (iL (g := gb374) (o := .cells #[.int .u16 a2_0, .int .u16 a2_1, .int .u8 a2_2] 55 (0, 0)) (bk_ BK374.out) hb); have n2_ := iC.mk (iM (by repeat (first | (with_reducible first | exact HB.out | apply iF | apply iD | apply iG | refine iE ?_ GE374.out) | exact HB.out)) hb); clear BK374; clear HB; have HO378 := n0_; have BK374 := n1_; have HB := n2_; clear n0_ n1_ n2_; (try clear hb); (try clear hb2); (try clear hk); (try clear hi); (try clear ho0)) | ((with_reducible refine jE (N := 8) rfl ?_); (try (refine iV (by rfl) ?_; dsimp only)); refine jB ?hg (N := 8) ?hd (cs := #[.int .u32 0, .slice none 0 0]) (t := 42) ?hr ?_; (case hd => rfl); (case hg => rfl); (case hr => first | (go_simp; done) | (go_simp; rfl)); intro gb379 hg w92 hbox hb; have n0_ := iC.mk (Kd.R_below (by (with_reducible repeat (first | apply Kd.R_alloc | apply Kd.R_drewN | apply Kd.R_drew)); exact HO378.out) hb); have n1_ := iC.mk (iL (g := gb374) (o := .cells #[.int .u16 a2_0, .int .u16 a2_1, .int .u8 a2_2] 55 (0, 0)) (bk_ BK374.out) hb); have n2_ := iC.mk (iM (by repeat (first | (with_reducible first | exact HB.out | apply iF | apply iD | apply iG | refine iE ?_ GE374.out) | exact HB.out)) hb); have n3_ := iC.mk (hbox); have n4_ := iC.mk ((by rw [hg]; exact (iP (by repeat (first | (with_reducible first | exact HB.out | apply iF | apply iD | apply iG | refine iE ?_ GE374.out) | exact HB.out))) : w.heap.size ≤ gb379)); have n5_ := iC.mk ((by rw [hg]; exact (iP (by repeat (first | (with_reducible first | exact HB.out | apply iF | apply iD | apply iG | refine iE ?_ GE374.out) | exact HB.out))) : w.heap.size ≤ gb379)); have n6_ := iC.mk ((by rw [hg]; exact Nat.ne_of_lt (jA (g := gb374) (o := .cells #[.int .u16 a2_0, .int .u16 a2_1, .int .u8 a2_2] 55 (0, 0)) (bk_ BK374.out)) : gb374 ≠ gb379)); have n7_ := iC.mk ((by rw [hg]; exact Nat.ne_of_gt (jA (g := gb374) (o := .cells #[.int .u16 a2_0, .int .u16 a2_1, .int .u8 a2_2] 55 (0, 0)) (bk_ BK374.out)) : gb379 ≠ gb374)); clear HO378; clear BK374; clear HB; have HO378 := n0_; have BK374 := n1_; have HB := n2_; have BK379 := n3_; have GW379 := n4_; have GE379 := n5_; have NB374_379 := n6_; have NB379_374 := n7_; clear n0_ n1_ n2_ n3_ n4_ n5_ n6_ n7_; clear hb hbox hg; have hnb93 := NB379_374.out; have hnc93 := NB374_379.out; have hcz94_0 : w92.cell? ⟨gb379, 0, none⟩ = some (.int .u32 0) := (iI BK379.out 0).trans rfl; have hcz94_1 : w92.cell? ⟨gb379, 1, none⟩ = some (.slice none 0 0) := (iI BK379.out 1).trans rfl; have hfz94_0 := iH BK379.out 0; have hfz94_1 := iH BK379.out 1; obtain ⟨Ao95, co95, eo95⟩ := Kd.R_slice HO378.out; subst eo95; have hcz96_0 : w92.cell? ⟨gb374, 0, none⟩ = some (.int .u16 a2_0) := (iI BK374.out 0).trans rfl; have hcz96_1 : w92.cell? ⟨gb374, 1, none⟩ = some (.int .u16 a2_1) := (iI BK374.out 1).trans rfl; have hcz96_2 : w92.cell? ⟨gb374, 2, none⟩ = some (.int .u8 a2_2) := (iI BK374.out 2).trans rfl; have hfz96_0 := iH BK374.out 0; have hfz96_1 := iH BK374.out 1; have hfz96_2 := iH BK374.out 2) | ((with_reducible refine iT (f := 28) rfl ?_); refine jG (some 43) rfl rfl Try.func28 (by kernel_rfl) rfl #[.agg #[.int .u32 t375, .slice Ao95 t376.length co95], .int .i64 (Int.tmod (wrap64 (a2_0)) (wrap64 (2 + (wrap64 (Int.tmod a1 200))))), .int .i64 (wrap64 ((wrap64 ((Int.tmod (wrap64 (a2_0)) (wrap64 (2 + (wrap64 (Int.tmod a1 200))))) + 1)) + (Int.tmod (wrap64 (a2_1)) (wrap64 ((wrap64 (2 + (wrap64 (Int.tmod a1 200)))) - (Int.tmod (wrap64 (a2_0)) (wrap64 (2 + (wrap64 (Int.tmod a1 200))))))))))] rfl (by (try simp only [List.map_toArray, List.map_cons, List.map_nil]); first | done | rfl | (simp only [List.length_drop, List.length_take]; rfl)) ?_; (with_reducible refine (spans_Nodes.calls t375 _ _ t376 (Int.tmod (wrap64 (a2_0)) (wrap64 (2 + (wrap64 (Int.tmod a1 200))))) (wrap64 ((wrap64 ((Int.tmod (wrap64 (a2_0)) (wrap64 (2 + (wrap64 (Int.tmod a1 200))))) + 1)) + (Int.tmod (wrap64 (a2_1)) (wrap64 ((wrap64 (2 + (wrap64 (Int.tmod a1 200)))) - (Int.tmod (wrap64 (a2_0)) (wrap64 (2 + (wrap64 (Int.tmod a1 200)))))))))) t380 _ ?side1 ?side2 A7.out).mono ?_); (case side1 => refine (Kd.R_reads' (e := 60) (base := w.heap.size) (ok := fun k_ => True) (n := t376.length) (c := co95) ?_).2.2; exact (by (with_reducible repeat (first | apply Kd.R_alloc | apply Kd.R_drewN | apply Kd.R_drew)); exact (Kd.R_mono (Kd.R_far (p := ⟨gb379, 1, none⟩) (Kd.R_far (p := ⟨gb379, 0, none⟩) (Kd.R_types HO378.out BK379.out (by decide)) (fun _ hk => hk.2) (.int .u32 t375)) (fun _ hk => hk.2) (.slice Ao95 t376.length co95)) (fun _ h_ => h_.1)))); (case side2 => exact (Kd.R_reads' HO378.out).2.1); rintro e w97 ⟨v381, rfl, ho0, hb⟩; refine ⟨_, rfl, ?_⟩; have n0_ := iC.mk (Kd.R_below (by (with_reducible repeat (first | apply Kd.R_alloc | apply Kd.R_drewN | apply Kd.R_drew)); exact (Kd.R_mono (Kd.R_far (p := ⟨gb379, 1, none⟩) (Kd.R_far (p := ⟨gb379, 0, none⟩) (Kd.R_types HO378.out BK379.out (by decide)) (fun _ hk => hk.2) (.int .u32 t375)) (fun _ hk => hk.2) (.slice Ao95 t376.length co95)) (fun _ h_ => h_.1))) hb); have n1_ := iC.mk (Kd.R_lower ho0 (iP (by repeat (first | (with_reducible first | exact HB.out | apply iF | apply iD | apply iG | refine iE ?_ GE374.out | refine iE ?_ GE379.out) | exact HB.out)))); have n2_ := iC.mk (iL (g := gb374) (o := .cells #[.int .u16 a2_0, .int .u16 a2_1, .int .u8 a2_2] 55 (0, 0)) (by (with_reducible repeat (first | refine iK ?_ _ | refine iO ?_ | refine iJ ?_ _)); refine jD ?_ NB374_379.out _; (with_reducible repeat (first | refine iK ?_ _ | refine iO ?_ | refine iJ ?_ _)); refine jD ?_ NB374_379.out _; (with_reducible repeat (first | refine iK ?_ _ | refine iO ?_ | refine iJ ?_ _)); exact BK374.out) hb); have n3_ := iC.mk (iL (g := gb379) (o := .cells #[.int .u32 t375, .slice Ao95 t376.length co95] 42 (0, 0)) (by (with_reducible repeat (first | refine iK ?_ _ | refine iO ?_ | refine iJ ?_ _)); refine jC (cs := #[.int .u32 t375, .slice none 0 0]) ?_ 1 _ rfl; (with_reducible repeat (first | refine iK ?_ _ | refine iO ?_ | refine iJ ?_ _)); refine jC (cs := #[.int .u32 0, .slice none 0 0]) ?_ 0 _ rfl; (with_reducible repeat (first | refine iK ?_ _ | refine iO ?_ | refine iJ ?_ _)); exact BK379.out) hb); have n4_ := iC.mk (iM (by repeat (first | (with_reducible first | exact HB.out | apply iF | apply iD | apply iG | refine iE ?_ GE374.out | refine iE ?_ GE379.out) | exact HB.out)) hb); clear HO378; clear BK374; clear BK379; clear HB; have HO378 := n0_; have HO382 := n1_; have BK374 := n2_; have BK379 := n3_; have HB := n4_; clear n0_ n1_ n2_ n3_ n4_; (try clear hb); (try clear hb2); (try clear hk); (try clear hi); (try clear ho0); obtain ⟨Ao98, co98, eo98⟩ := Kd.R_slice HO382.out; subst eo98))
              have n0_ := iC.mk (Kd.R_drew HO378.out)
              have n1_ := iC.mk (Kd.R_drew HO382.out)
              have n2_ := iC.mk (iO BK374.out)
              have n3_ := iC.mk (iO BK379.out)
              have n4_ := iC.mk (iG HB.out)
              clear HO378
              clear HO382
              clear BK374
              clear BK379
              clear HB
              have HO378 := n0_
              have HO382 := n1_
              have BK374 := n2_
              have BK379 := n3_
              have HB := n4_
              clear n0_ n1_ n2_ n3_ n4_
              have p384 : 0 ≤ (0 : Int) := (by omega)
              have q384 : 0 < (t380.length : Int) := of_decide_eq_true asm_
              obtain ⟨ad384, e384, hx384_0⟩ := Kd.at_int (Kd.R_reads' HO382.out).2.2 0 p384 q384
              cases e384
              have qi384 : (0 < t380.length) = True := eq_true (by omega)
              (try rw [show ((0 : Int)).toNat = 0 from rfl] at hx384_0)
              (try rw [Addr.add_zero'] at hx384_0)
              replace p384 := eq_true p384
              replace q384 := eq_true q384
              refine kW (n := 11) (S := fun w' => w'.cell? ⟨gb374, 0, none⟩ = some (.int .u16 a2_0) ∧ w'.cell? ⟨gb374, 1, none⟩ = some (.int .u16 a2_1) ∧ w'.cell? ⟨gb374, 2, none⟩ = some (.int .u8 a2_2) ∧ w'.cell? ad384 = some (.int .i64 (rd t380 0))) (ds := []) #[false, false, false, false, false, false, false, false, false, false, false] (by kernel_rfl) rfl rfl ⟨(iI BK374.out 0).trans rfl, (iI BK374.out 1).trans rfl, (iI BK374.out 2).trans rfl, hx384_0⟩ (fun hHeld => ?_); refine jY stratumlaw12_SpansBack.tab8 stratumlaw12_SpansBack.bits8 (fun HT_ HW_ => ?_)
              generalize w97.drew = w99 at HO378 HO382 BK374 BK379 HB hx384_0 hHeld ⊢
              refine jH (i := 0) (N := some 48) (v := ?_) (a' := ?_) #[true, false, false, false, false, false, false, false, false, false, false] rfl rfl (iZ HT_.out (by kernel_rfl)) (fun _ _ _ h => h) (Or.inl ⟨by rfl, ?_⟩) ?_ ?_
              rotate_left
              · intro w'
                go_simp
                with_reducible rfl
              rotate_left
              · simp only [Act.put, List.setIfInBounds_toArray, List.set_cons_zero, List.set_cons_succ, iW, iY]
                rfl
              refine jH (i := 1) (N := some 49) (v := ?_) (a' := ?_) #[true, true, false, false, false, false, false, false, false, false, false] rfl rfl (iZ HT_.out (by kernel_rfl)) (fun _ _ _ h => h) (Or.inl ⟨by rfl, ?_⟩) ?_ ?_
              rotate_left
              · intro w'
                go_simp
                with_reducible rfl
              rotate_left
              · simp only [Act.put, List.setIfInBounds_toArray, List.set_cons_zero, List.set_cons_succ, iW, iY]
                rfl
              refine jH (i := 4) (N := some 52) (v := ?_) (a' := ?_) #[true, true, false, false, true, false, false, false, false, false, false] rfl rfl (iZ HT_.out (by kernel_rfl)) (fun _ _ _ h => h) (Or.inl ⟨by rfl, ?_⟩) ?_ ?_
              rotate_left
              · intro w'
                go_simp
                with_reducible rfl
              rotate_left
              · simp only [Act.put, List.setIfInBounds_toArray, List.set_cons_zero, List.set_cons_succ, iW, iY]
                rfl
              refine take_ (i := 2) (N := some 50) (v := ?_) (a' := ?_) #[true, true, true, false, true, false, false, false, false, false, false] rfl rfl (jL HT_.out HW_.out (by kernel_rfl)) (fun _ _ _ h => h) (Or.inl ⟨by rfl, ?_⟩) hHeld ?_ ?_
              rotate_left
              · rintro w' ⟨s0, s1, s2, s3⟩
                go_simp
                with_reducible rfl
              rotate_left
              · simp only [Act.put, List.setIfInBounds_toArray, List.set_cons_zero, List.set_cons_succ, iW, iY]
                rfl
              refine jH (i := 3) (N := some 51) (v := ?_) (a' := ?_) #[true, true, true, true, true, false, false, false, false, false, false] rfl rfl (iZ HT_.out (by kernel_rfl)) (fun _ _ _ h => h) (Or.inl ⟨by rfl, ?_⟩) ?_ ?_
              rotate_left
              · intro w'
                go_simp
                with_reducible rfl
              rotate_left
              · simp only [Act.put, List.setIfInBounds_toArray, List.set_cons_zero, List.set_cons_succ, iW, iY]
                rfl
              refine take_ (i := 5) (N := some 53) (v := ?_) (a' := ?_) #[true, true, true, true, true, true, false, false, false, false, false] rfl rfl (jL HT_.out HW_.out (by kernel_rfl)) (fun _ _ _ h => h) (Or.inl ⟨by rfl, ?_⟩) hHeld ?_ ?_
              rotate_left
              · rintro w' ⟨s0, s1, s2, s3⟩
                go_simp
                with_reducible rfl
              rotate_left
              · simp only [Act.put, List.setIfInBounds_toArray, List.set_cons_zero, List.set_cons_succ, iW, iY]
                rfl
              refine jH (i := 6) (N := some 54) (v := ?_) (a' := ?_) #[true, true, true, true, true, true, true, false, false, false, false] rfl rfl (iZ HT_.out (by kernel_rfl)) (fun _ _ _ h => h) (Or.inl ⟨by rfl, ?_⟩) ?_ ?_
              rotate_left
              · intro w'
                go_simp
                with_reducible rfl
              rotate_left
              · simp only [Act.put, List.setIfInBounds_toArray, List.set_cons_zero, List.set_cons_succ, iW, iY]
                rfl
              refine jH (i := 7) (N := some 55) (v := ?_) (a' := ?_) #[true, true, true, true, true, true, true, true, false, false, false] rfl rfl (iZ HT_.out (by kernel_rfl)) (fun _ _ _ h => h) (Or.inl ⟨by rfl, ?_⟩) ?_ ?_
              rotate_left
              · intro w'
                go_simp
                with_reducible rfl
              rotate_left
              · simp only [Act.put, List.setIfInBounds_toArray, List.set_cons_zero, List.set_cons_succ, iW, iY]
                rfl
              refine jH (i := 8) (N := some 56) (v := ?_) (a' := ?_) #[true, true, true, true, true, true, true, true, true, false, false] rfl rfl (iZ HT_.out (by kernel_rfl)) (fun _ _ _ h => h) (Or.inl ⟨by rfl, ?_⟩) ?_ ?_
              rotate_left
              · intro w'
                go_simp
                with_reducible rfl
              rotate_left
              · simp only [Act.put, List.setIfInBounds_toArray, List.set_cons_zero, List.set_cons_succ, iW, iY]
                rfl
              refine jH (i := 9) (N := some 57) (v := ?_) (a' := ?_) #[true, true, true, true, true, true, true, true, true, true, false] rfl rfl (iZ HT_.out (by kernel_rfl)) (fun _ _ _ h => h) (Or.inl ⟨by rfl, ?_⟩) ?_ ?_
              rotate_left
              · intro w'
                go_simp
                with_reducible rfl
              rotate_left
              · simp only [Act.put, List.setIfInBounds_toArray, List.set_cons_zero, List.set_cons_succ, iW, iY]
                rfl
              refine jH (i := 10) (N := some 12) (v := ?_) (a' := ?_) #[true, true, true, true, true, true, true, true, true, true, true] rfl rfl (iZ HT_.out (by kernel_rfl)) (fun _ _ _ h => h) (Or.inl ⟨by rfl, ?_⟩) ?_ ?_
              rotate_left
              · intro w'
                go_simp
                with_reducible rfl
              rotate_left
              · simp only [Act.put, List.setIfInBounds_toArray, List.set_cons_zero, List.set_cons_succ, iW, iY]
                rfl
              refine mJ (kN HT_.out (by kernel_rfl)) ?_
              have hcz100_0 : w99.cell? ⟨gb379, 0, none⟩ = some (.int .u32 t375) := (iI BK379.out 0).trans rfl
              have hcz100_1 : w99.cell? ⟨gb379, 1, none⟩ = some (.slice Ao95 t376.length co95) := (iI BK379.out 1).trans rfl
              have hfz100_0 := iH BK379.out 0
              have hfz100_1 := iH BK379.out 1
              try go_wp2_with (first | ((with_reducible refine iT (f := 30) rfl ?_); refine jG (some 64) rfl rfl Try.func30 (by kernel_rfl) rfl #[.agg #[.int .u32 t375, .slice Ao95 t376.length co95], .int .i64 (wrap64 (2 + (wrap64 (Int.tmod a1 200)))), .int .i64 3, .int .i64 (Int.tmod (wrap64 (a2_0)) (wrap64 (2 + (wrap64 (Int.tmod a1 200))))), .int .i64 (wrap64 ((wrap64 ((Int.tmod (wrap64 (a2_0)) (wrap64 (2 + (wrap64 (Int.tmod a1 200))))) + 1)) + (Int.tmod (wrap64 (a2_1)) (wrap64 ((wrap64 (2 + (wrap64 (Int.tmod a1 200)))) - (Int.tmod (wrap64 (a2_0)) (wrap64 (2 + (wrap64 (Int.tmod a1 200)))))))))), .int .i64 (Int.tmod (wrap64 ((wrap64 ((rd t380 0) + 1)) + (Int.tmod (wrap64 (a2_2)) 2))) 3)] rfl (by (try simp only [List.map_toArray, List.map_cons, List.map_nil]); first | done | rfl | (simp only [List.length_drop, List.length_take]; rfl)) ?_; (with_reducible refine (spans_Split.calls k t375 _ _ t376 (wrap64 (2 + (wrap64 (Int.tmod a1 200)))) 3 (Int.tmod (wrap64 (a2_0)) (wrap64 (2 + (wrap64 (Int.tmod a1 200))))) (wrap64 ((wrap64 ((Int.tmod (wrap64 (a2_0)) (wrap64 (2 + (wrap64 (Int.tmod a1 200))))) + 1)) + (Int.tmod (wrap64 (a2_1)) (wrap64 ((wrap64 (2 + (wrap64 (Int.tmod a1 200)))) - (Int.tmod (wrap64 (a2_0)) (wrap64 (2 + (wrap64 (Int.tmod a1 200)))))))))) (Int.tmod (wrap64 ((wrap64 ((rd t380 0) + 1)) + (Int.tmod (wrap64 (a2_2)) 2))) 3) t385 t386 t389 _ ?side1 ?side2 A10.out).mono ?_); (case side1 => repeat (first | exact (Kd.R_reads' HO378.out).2.2 | (with_reducible refine Kd.C_alloc ?_ _) | (with_reducible refine Kd.C_drewN ?_ _) | (with_reducible refine Kd.C_drew ?_))); (case side2 => exact (Kd.R_reads' HO378.out).2.1); rintro e w101 ⟨v387, rfl, ho0, hb⟩; refine ⟨_, rfl, ?_⟩; have n0_ := iC.mk (Kd.R_elder' (by (with_reducible repeat (first | apply Kd.R_alloc | apply Kd.R_drewN | apply Kd.R_drew)); exact HO378.out) (Kd.R_base ho0) hb); have n1_ := iC.mk (Kd.R_below (by (with_reducible repeat (first | apply Kd.R_alloc | apply Kd.R_drewN | apply Kd.R_drew)); exact HO382.out) hb); have n2_ := iC.mk (Kd.R_lower (Kd.R_new' ho0 (Kd.R_lt (by (with_reducible repeat (first | apply Kd.R_alloc | apply Kd.R_drewN | apply Kd.R_drew)); exact HO378.out))) (iP (by repeat (first | (with_reducible first | exact HB.out | apply iF | apply iD | apply iG | refine iE ?_ GE374.out | refine iE ?_ GE379.out) | exact HB.out)))); have n3_ := iC.mk (iL (g := gb374) (o := .cells #[.int .u16 a2_0, .int .u16 a2_1, .int .u8 a2_2] 55 (0, 0)) (bk_ BK374.out) hb); have n4_ := iC.mk (iL (g := gb379) (o := .cells #[.int .u32 t375, .slice Ao95 t376.length co95] 42 (0, 0)) (bk_ BK379.out) hb); have n5_ := iC.mk (iM (by repeat (first | (with_reducible first | exact HB.out | apply iF | apply iD | apply iG | refine iE ?_ GE374.out | refine iE ?_ GE379.out) | exact HB.out)) hb); clear HO378; clear HO382; clear BK374; clear BK379; clear HB; have HO378 := n0_; have HO382 := n1_; have HO388 := n2_; have BK374 := n3_; have BK379 := n4_; have HB := n5_; clear n0_ n1_ n2_ n3_ n4_ n5_; (try clear hb); (try clear hb2); (try clear hk); (try clear hi); (try clear ho0)) | ((with_reducible refine jE (N := 13) rfl ?_); (try (refine iV (by rfl) ?_; dsimp only)); refine jB ?hg (N := 13) ?hd (cs := #[.int .u32 0, .slice none 0 0]) (t := 42) ?hr ?_; (case hd => rfl); (case hg => rfl); (case hr => first | (go_simp; done) | (go_simp; rfl)); intro gb390 hg w102 hbox hb; have n0_ := iC.mk (Kd.R_below (by (with_reducible repeat (first | apply Kd.R_alloc | apply Kd.R_drewN | apply Kd.R_drew)); exact HO378.out) hb); have n1_ := iC.mk (Kd.R_below (by (with_reducible repeat (first | apply Kd.R_alloc | apply Kd.R_drewN | apply Kd.R_drew)); exact HO382.out) hb); have n2_ := iC.mk (Kd.R_below (by (with_reducible repeat (first | apply Kd.R_alloc | apply Kd.R_drewN | apply Kd.R_drew)); exact HO388.out) hb); have n3_ := iC.mk (iL (g := gb374) (o := .cells #[.int .u16 a2_0, .int .u16 a2_1, .int .u8 a2_2] 55 (0, 0)) (bk_ BK374.out) hb); have n4_ := iC.mk (iL (g := gb379) (o := .cells #[.int .u32 t375, .slice Ao95 t376.length co95] 42 (0, 0)) (bk_ BK379.out) hb); have n5_ := iC.mk (iM (by repeat (first | (with_reducible first | exact HB.out | apply iF | apply iD | apply iG | refine iE ?_ GE374.out | refine iE ?_ GE379.out) | exact HB.out)) hb); have n6_ := iC.mk (hbox); have n7_ := iC.mk ((by rw [hg]; exact (iP (by repeat (first | (with_reducible first | exact HB.out | apply iF | apply iD | apply iG | refine iE ?_ GE374.out | refine iE ?_ GE379.out) | exact HB.out))) : w.heap.size ≤ gb390)); have n8_ := iC.mk ((by rw [hg]; exact (iP (by repeat (first | (with_reducible first | exact HB.out | apply iF | apply iD | apply iG | refine iE ?_ GE374.out | refine iE ?_ GE379.out) | exact HB.out))) : w.heap.size ≤ gb390)); have n9_ := iC.mk ((by rw [hg]; exact Nat.ne_of_lt (jA (g := gb374) (o := .cells #[.int .u16 a2_0, .int .u16 a2_1, .int .u8 a2_2] 55 (0, 0)) (bk_ BK374.out)) : gb374 ≠ gb390)); have n10_ := iC.mk ((by rw [hg]; exact Nat.ne_of_gt (jA (g := gb374) (o := .cells #[.int .u16 a2_0, .int .u16 a2_1, .int .u8 a2_2] 55 (0, 0)) (bk_ BK374.out)) : gb390 ≠ gb374)); have n11_ := iC.mk ((by rw [hg]; exact Nat.ne_of_lt (jA (g := gb379) (o := .cells #[.int .u32 t375, .slice Ao95 t376.length co95] 42 (0, 0)) (bk_ BK379.out)) : gb379 ≠ gb390)); have n12_ := iC.mk ((by rw [hg]; exact Nat.ne_of_gt (jA (g := gb379) (o := .cells #[.int .u32 t375, .slice Ao95 t376.length co95] 42 (0, 0)) (bk_ BK379.out)) : gb390 ≠ gb379)); clear HO378; clear HO382; clear HO388; clear BK374; clear BK379; clear HB; have HO378 := n0_; have HO382 := n1_; have HO388 := n2_; have BK374 := n3_; have BK379 := n4_; have HB := n5_; have BK390 := n6_; have GW390 := n7_; have GE390 := n8_; have NB374_390 := n9_; have NB390_374 := n10_; have NB379_390 := n11_; have NB390_379 := n12_; clear n0_ n1_ n2_ n3_ n4_ n5_ n6_ n7_ n8_ n9_ n10_ n11_ n12_; clear hb hbox hg; have hnb103 := NB390_374.out; have hnc103 := NB374_390.out; have hnb104 := NB390_379.out; have hnc104 := NB379_390.out; have hcz105_0 : w102.cell? ⟨gb390, 0, none⟩ = some (.int .u32 0) := (iI BK390.out 0).trans rfl; have hcz105_1 : w102.cell? ⟨gb390, 1, none⟩ = some (.slice none 0 0) := (iI BK390.out 1).trans rfl; have hfz105_0 := iH BK390.out 0; have hfz105_1 := iH BK390.out 1; obtain ⟨Ao106, co106, eo106⟩ := Kd.R_slice HO388.out; subst eo106) | ((with_reducible refine iT (f := 29) rfl ?_); refine jG (some 69) rfl rfl Try.func29 (by kernel_rfl) rfl #[] rfl (by (try simp only [List.map_toArray, List.map_cons, List.map_nil]); first | done | rfl | (simp only [List.length_drop, List.length_take]; rfl)) ?_; (with_reducible refine (stratumlaw12_known.calls k  true _ A88.out).mono ?_); rintro e w107 ⟨rfl, hb⟩; refine ⟨_, rfl, ?_⟩; have n0_ := iC.mk (Kd.R_below (by (with_reducible repeat (first | apply Kd.R_alloc | apply Kd.R_drewN | apply Kd.R_drew)); exact (Kd.R_mono (Kd.R_far (p := ⟨gb390, 1, none⟩) (Kd.R_far (p := ⟨gb390, 0, none⟩) (Kd.R_types HO378.out BK390.out (by decide)) (fun _ hk => hk.2) (.int .u32 t385)) (fun _ hk => hk.2) (.slice Ao106 t386.length co106)) (fun _ h_ => h_.1))) hb); have n1_ := iC.mk (Kd.R_below (by (with_reducible repeat (first | apply Kd.R_alloc | apply Kd.R_drewN | apply Kd.R_drew)); exact (Kd.R_mono (Kd.R_far (p := ⟨gb390, 1, none⟩) (Kd.R_far (p := ⟨gb390, 0, none⟩) (Kd.R_types HO382.out BK390.out (by decide)) (fun _ hk => hk.2) (.int .u32 t385)) (fun _ hk => hk.2) (.slice Ao106 t386.length co106)) (fun _ h_ => h_.1))) hb); have n2_ := iC.mk (Kd.R_below (by (with_reducible repeat (first | apply Kd.R_alloc | apply Kd.R_drewN | apply Kd.R_drew)); exact (Kd.R_mono (Kd.R_far (p := ⟨gb390, 1, none⟩) (Kd.R_far (p := ⟨gb390, 0, none⟩) (Kd.R_types HO388.out BK390.out (by decide)) (fun _ hk => hk.2) (.int .u32 t385)) (fun _ hk => hk.2) (.slice Ao106 t386.length co106)) (fun _ h_ => h_.1))) hb); have n3_ := iC.mk (iL (g := gb374) (o := .cells #[.int .u16 a2_0, .int .u16 a2_1, .int .u8 a2_2] 55 (0, 0)) (by (with_reducible repeat (first | refine iK ?_ _ | refine iO ?_ | refine iJ ?_ _)); refine jD ?_ NB374_390.out _; (with_reducible repeat (first | refine iK ?_ _ | refine iO ?_ | refine iJ ?_ _)); refine jD ?_ NB374_390.out _; (with_reducible repeat (first | refine iK ?_ _ | refine iO ?_ | refine iJ ?_ _)); exact BK374.out) hb); have n4_ := iC.mk (iL (g := gb379) (o := .cells #[.int .u32 t375, .slice Ao95 t376.length co95] 42 (0, 0)) (by (with_reducible repeat (first | refine iK ?_ _ | refine iO ?_ | refine iJ ?_ _)); refine jD ?_ NB379_390.out _; (with_reducible repeat (first | refine iK ?_ _ | refine iO ?_ | refine iJ ?_ _)); refine jD ?_ NB379_390.out _; (with_reducible repeat (first | refine iK ?_ _ | refine iO ?_ | refine iJ ?_ _)); exact BK379.out) hb); have n5_ := iC.mk (iL (g := gb390) (o := .cells #[.int .u32 t385, .slice Ao106 t386.length co106] 42 (0, 0)) (by (with_reducible repeat (first | refine iK ?_ _ | refine iO ?_ | refine iJ ?_ _)); refine jC (cs := #[.int .u32 t385, .slice none 0 0]) ?_ 1 _ rfl; (with_reducible repeat (first | refine iK ?_ _ | refine iO ?_ | refine iJ ?_ _)); refine jC (cs := #[.int .u32 0, .slice none 0 0]) ?_ 0 _ rfl; (with_reducible repeat (first | refine iK ?_ _ | refine iO ?_ | refine iJ ?_ _)); exact BK390.out) hb); have n6_ := iC.mk (iM (by repeat (first | (with_reducible first | exact HB.out | apply iF | apply iD | apply iG | refine iE ?_ GE374.out | refine iE ?_ GE379.out | refine iE ?_ GE390.out) | exact HB.out)) hb); clear HO378; clear HO382; clear HO388; clear BK374; clear BK379; clear BK390; clear HB; have HO378 := n0_; have HO382 := n1_; have HO388 := n2_; have BK374 := n3_; have BK379 := n4_; have BK390 := n5_; have HB := n6_; clear n0_ n1_ n2_ n3_ n4_ n5_ n6_; (try clear hb); (try clear hb2); (try clear hk); (try clear hi)))
              go_ret
              exact ⟨by first | rfl | (simp [iR, iQ] <;> rfl) | (simp [*, iR, iQ] <;> rfl), by repeat (first | (with_reducible first | exact HB.out | apply iF | apply iD | apply iG | refine iE ?_ GE374.out | refine iE ?_ GE379.out | refine iE ?_ GE390.out) | exact HB.out)⟩
            · replace c89 := Bool.eq_false_iff.mpr c89
              subst c89
              have H1 : (some false) = some r := by rw [if_neg (show ¬ (false = true) by decide)] at H; exact H
              clear H
              have H := H1
              clear H1
              obtain rfl := Option.some.inj H
              go_enter Try.func6, Try.ntmps6
              try go_wp2_with (first | ((with_reducible refine jE (N := 5) rfl ?_); (try (refine iV (by rfl) ?_; dsimp only)); refine jB ?hg (N := 5) ?hd (cs := #[.int .u16 a2_0, .int .u16 a2_1, .int .u8 a2_2]) (t := 55) ?hr ?_; (case hd => rfl); (case hg => rfl); (case hr => first | (go_simp; done) | (go_simp; rfl)); intro gb374 hg w108 hbox hb; have n0_ := iC.mk (iM hb_ hb); have n1_ := iC.mk (hbox); have n2_ := iC.mk ((by rw [hg]; exact (iP hb_) : w.heap.size ≤ gb374)); have n3_ := iC.mk ((by rw [hg]; exact (iP hb_) : w.heap.size ≤ gb374)); clear HB; have HB := n0_; have BK374 := n1_; have GW374 := n2_; have GE374 := n3_; clear n0_ n1_ n2_ n3_; clear hb hbox hg) | ((with_reducible refine iT (f := 24) rfl ?_); refine jG (some 24) rfl rfl Try.func24 (by kernel_rfl) rfl #[.int .i64 (wrap64 (2 + (wrap64 (Int.tmod a1 200)))), .int .i64 3, .slice A0 l0.length c0] rfl (by (try simp only [List.map_toArray, List.map_cons, List.map_nil]); first | done | rfl | (simp only [List.length_drop, List.length_take]; rfl)) ?_; (with_reducible refine (stratumlaw12_Of.calls k (wrap64 (2 + (wrap64 (Int.tmod a1 200)))) 3 _ _ l0 t375 t376 _ ?side1 ?side2 A4.out).mono ?_); (case side1 => repeat (first | exact (Kd.C_below HR0.out HB.out) | (with_reducible refine Kd.C_alloc ?_ _) | (with_reducible refine Kd.C_drewN ?_ _) | (with_reducible refine Kd.C_drew ?_))); (case side2 => exact HC0.out); rintro e w109 ⟨v377, rfl, ho0, hb⟩; refine ⟨_, rfl, ?_⟩; have n0_ := iC.mk (Kd.R_lower ho0 (iP (by repeat (first | (with_reducible first | exact HB.out | apply iF | apply iD | apply iG | refine iE ?_ GE374.out) | exact HB.out)))); have n1_ := iC.mk (iL (g := gb374) (o := .cells #[.int .u16 a2_0, .int .u16 a2_1, .int .u8 a2_2] 55 (0, 0)) (bk_ BK374.out) hb); have n2_ := iC.mk (iM (by repeat (first | (with_reducible first | exact HB.out | apply iF | apply iD | apply iG | refine iE ?_ GE374.out) | exact HB.out)) hb); clear BK374; clear HB; have HO378 := n0_; have BK374 := n1_; have HB := n2_; clear n0_ n1_ n2_; (try clear hb); (try clear hb2); (try clear hk); (try clear hi); (try clear ho0)) | ((with_reducible refine jE (N := 8) rfl ?_); (try (refine iV (by rfl) ?_; dsimp only)); refine jB ?hg (N := 8) ?hd (cs := #[.int .u32 0, .slice none 0 0]) (t := 42) ?hr ?_; (case hd => rfl); (case hg => rfl); (case hr => first | (go_simp; done) | (go_simp; rfl)); intro gb379 hg w110 hbox hb; have n0_ := iC.mk (Kd.R_below (by (with_reducible repeat (first | apply Kd.R_alloc | apply Kd.R_drewN | apply Kd.R_drew)); exact HO378.out) hb); have n1_ := iC.mk (iL (g := gb374) (o := .cells #[.int .u16 a2_0, .int .u16 a2_1, .int .u8 a2_2] 55 (0, 0)) (bk_ BK374.out) hb); have n2_ := iC.mk (iM (by repeat (first | (with_reducible first | exact HB.out | apply iF | apply iD | apply iG | refine iE ?_ GE374.out) | exact HB.out)) hb); have n3_ := iC.mk (hbox); have n4_ := iC.mk ((by rw [hg]; exact (iP (by repeat (first | (with_reducible first | exact HB.out | apply iF | apply iD | apply iG | refine iE ?_ GE374.out) | exact HB.out))) : w.heap.size ≤ gb379)); have n5_ := iC.mk ((by rw [hg]; exact (iP (by repeat (first | (with_reducible first | exact HB.out | apply iF | apply iD | apply iG | refine iE ?_ GE374.out) | exact HB.out))) : w.heap.size ≤ gb379)); have n6_ := iC.mk ((by rw [hg]; exact Nat.ne_of_lt (jA (g := gb374) (o := .cells #[.int .u16 a2_0, .int .u16 a2_1, .int .u8 a2_2] 55 (0, 0)) (bk_ BK374.out)) : gb374 ≠ gb379)); have n7_ := iC.mk ((by rw [hg]; exact Nat.ne_of_gt (jA (g := gb374) (o := .cells #[.int .u16 a2_0, .int .u16 a2_1, .int .u8 a2_2] 55 (0, 0)) (bk_ BK374.out)) : gb379 ≠ gb374)); clear HO378; clear BK374; clear HB; have HO378 := n0_; have BK374 := n1_; have HB := n2_; have BK379 := n3_; have GW379 := n4_; have GE379 := n5_; have NB374_379 := n6_; have NB379_374 := n7_; clear n0_ n1_ n2_ n3_ n4_ n5_ n6_ n7_; clear hb hbox hg; have hnb111 := NB379_374.out; have hnc111 := NB374_379.out; have hcz112_0 : w110.cell? ⟨gb379, 0, none⟩ = some (.int .u32 0) := (iI BK379.out 0).trans rfl; have hcz112_1 : w110.cell? ⟨gb379, 1, none⟩ = some (.slice none 0 0) := (iI BK379.out 1).trans rfl; have hfz112_0 := iH BK379.out 0; have hfz112_1 := iH BK379.out 1; obtain ⟨Ao113, co113, eo113⟩ := Kd.R_slice HO378.out; subst eo113; have hcz114_0 : w110.cell? ⟨gb374, 0, none⟩ = some (.int .u16 a2_0) := (iI BK374.out 0).trans rfl; have hcz114_1 : w110.cell? ⟨gb374, 1, none⟩ = some (.int .u16 a2_1) := (iI BK374.out 1).trans rfl; have hcz114_2 : w110.cell? ⟨gb374, 2, none⟩ = some (.int .u8 a2_2) := (iI BK374.out 2).trans rfl; have hfz114_0 := iH BK374.out 0; have hfz114_1 := iH BK374.out 1; have hfz114_2 := iH BK374.out 2) | ((with_reducible refine iT (f := 28) rfl ?_); refine jG (some 43) rfl rfl Try.func28 (by kernel_rfl) rfl #[.agg #[.int .u32 t375, .slice Ao113 t376.length co113], .int .i64 (Int.tmod (wrap64 (a2_0)) (wrap64 (2 + (wrap64 (Int.tmod a1 200))))), .int .i64 (wrap64 ((wrap64 ((Int.tmod (wrap64 (a2_0)) (wrap64 (2 + (wrap64 (Int.tmod a1 200))))) + 1)) + (Int.tmod (wrap64 (a2_1)) (wrap64 ((wrap64 (2 + (wrap64 (Int.tmod a1 200)))) - (Int.tmod (wrap64 (a2_0)) (wrap64 (2 + (wrap64 (Int.tmod a1 200))))))))))] rfl (by (try simp only [List.map_toArray, List.map_cons, List.map_nil]); first | done | rfl | (simp only [List.length_drop, List.length_take]; rfl)) ?_; (with_reducible refine (spans_Nodes.calls t375 _ _ t376 (Int.tmod (wrap64 (a2_0)) (wrap64 (2 + (wrap64 (Int.tmod a1 200))))) (wrap64 ((wrap64 ((Int.tmod (wrap64 (a2_0)) (wrap64 (2 + (wrap64 (Int.tmod a1 200))))) + 1)) + (Int.tmod (wrap64 (a2_1)) (wrap64 ((wrap64 (2 + (wrap64 (Int.tmod a1 200)))) - (Int.tmod (wrap64 (a2_0)) (wrap64 (2 + (wrap64 (Int.tmod a1 200)))))))))) t380 _ ?side1 ?side2 A7.out).mono ?_); (case side1 => refine (Kd.R_reads' (e := 60) (base := w.heap.size) (ok := fun k_ => True) (n := t376.length) (c := co113) ?_).2.2; exact (by (with_reducible repeat (first | apply Kd.R_alloc | apply Kd.R_drewN | apply Kd.R_drew)); exact (Kd.R_mono (Kd.R_far (p := ⟨gb379, 1, none⟩) (Kd.R_far (p := ⟨gb379, 0, none⟩) (Kd.R_types HO378.out BK379.out (by decide)) (fun _ hk => hk.2) (.int .u32 t375)) (fun _ hk => hk.2) (.slice Ao113 t376.length co113)) (fun _ h_ => h_.1)))); (case side2 => exact (Kd.R_reads' HO378.out).2.1); rintro e w115 ⟨v381, rfl, ho0, hb⟩; refine ⟨_, rfl, ?_⟩; have n0_ := iC.mk (Kd.R_below (by (with_reducible repeat (first | apply Kd.R_alloc | apply Kd.R_drewN | apply Kd.R_drew)); exact (Kd.R_mono (Kd.R_far (p := ⟨gb379, 1, none⟩) (Kd.R_far (p := ⟨gb379, 0, none⟩) (Kd.R_types HO378.out BK379.out (by decide)) (fun _ hk => hk.2) (.int .u32 t375)) (fun _ hk => hk.2) (.slice Ao113 t376.length co113)) (fun _ h_ => h_.1))) hb); have n1_ := iC.mk (Kd.R_lower ho0 (iP (by repeat (first | (with_reducible first | exact HB.out | apply iF | apply iD | apply iG | refine iE ?_ GE374.out | refine iE ?_ GE379.out) | exact HB.out)))); have n2_ := iC.mk (iL (g := gb374) (o := .cells #[.int .u16 a2_0, .int .u16 a2_1, .int .u8 a2_2] 55 (0, 0)) (by (with_reducible repeat (first | refine iK ?_ _ | refine iO ?_ | refine iJ ?_ _)); refine jD ?_ NB374_379.out _; (with_reducible repeat (first | refine iK ?_ _ | refine iO ?_ | refine iJ ?_ _)); refine jD ?_ NB374_379.out _; (with_reducible repeat (first | refine iK ?_ _ | refine iO ?_ | refine iJ ?_ _)); exact BK374.out) hb); have n3_ := iC.mk (iL (g := gb379) (o := .cells #[.int .u32 t375, .slice Ao113 t376.length co113] 42 (0, 0)) (by (with_reducible repeat (first | refine iK ?_ _ | refine iO ?_ | refine iJ ?_ _)); refine jC (cs := #[.int .u32 t375, .slice none 0 0]) ?_ 1 _ rfl; (with_reducible repeat (first | refine iK ?_ _ | refine iO ?_ | refine iJ ?_ _)); refine jC (cs := #[.int .u32 0, .slice none 0 0]) ?_ 0 _ rfl; (with_reducible repeat (first | refine iK ?_ _ | refine iO ?_ | refine iJ ?_ _)); exact BK379.out) hb); have n4_ := iC.mk (iM (by repeat (first | (with_reducible first | exact HB.out | apply iF | apply iD | apply iG | refine iE ?_ GE374.out | refine iE ?_ GE379.out) | exact HB.out)) hb); clear HO378; clear BK374; clear BK379; clear HB; have HO378 := n0_; have HO382 := n1_; have BK374 := n2_; have BK379 := n3_; have HB := n4_; clear n0_ n1_ n2_ n3_ n4_; (try clear hb); (try clear hb2); (try clear hk); (try clear hi); (try clear ho0); obtain ⟨Ao116, co116, eo116⟩ := Kd.R_slice HO382.out; subst eo116))
              have n0_ := iC.mk (Kd.R_drew HO378.out)
              have n1_ := iC.mk (Kd.R_drew HO382.out)
              have n2_ := iC.mk (iO BK374.out)
              have n3_ := iC.mk (iO BK379.out)
              have n4_ := iC.mk (iG HB.out)
              clear HO378
              clear HO382
              clear BK374
              clear BK379
              clear HB
              have HO378 := n0_
              have HO382 := n1_
              have BK374 := n2_
              have BK379 := n3_
              have HB := n4_
              clear n0_ n1_ n2_ n3_ n4_
              have p384 : 0 ≤ (0 : Int) := (by omega)
              have q384 : 0 < (t380.length : Int) := of_decide_eq_true asm_
              obtain ⟨ad384, e384, hx384_0⟩ := Kd.at_int (Kd.R_reads' HO382.out).2.2 0 p384 q384
              cases e384
              have qi384 : (0 < t380.length) = True := eq_true (by omega)
              (try rw [show ((0 : Int)).toNat = 0 from rfl] at hx384_0)
              (try rw [Addr.add_zero'] at hx384_0)
              replace p384 := eq_true p384
              replace q384 := eq_true q384
              refine kW (n := 11) (S := fun w' => w'.cell? ⟨gb374, 0, none⟩ = some (.int .u16 a2_0) ∧ w'.cell? ⟨gb374, 1, none⟩ = some (.int .u16 a2_1) ∧ w'.cell? ⟨gb374, 2, none⟩ = some (.int .u8 a2_2) ∧ w'.cell? ad384 = some (.int .i64 (rd t380 0))) (ds := []) #[false, false, false, false, false, false, false, false, false, false, false] (by kernel_rfl) rfl rfl ⟨(iI BK374.out 0).trans rfl, (iI BK374.out 1).trans rfl, (iI BK374.out 2).trans rfl, hx384_0⟩ (fun hHeld => ?_); refine jY stratumlaw12_SpansBack.tab8 stratumlaw12_SpansBack.bits8 (fun HT_ HW_ => ?_)
              generalize w115.drew = w117 at HO378 HO382 BK374 BK379 HB hx384_0 hHeld ⊢
              refine jH (i := 0) (N := some 48) (v := ?_) (a' := ?_) #[true, false, false, false, false, false, false, false, false, false, false] rfl rfl (iZ HT_.out (by kernel_rfl)) (fun _ _ _ h => h) (Or.inl ⟨by rfl, ?_⟩) ?_ ?_
              rotate_left
              · intro w'
                go_simp
                with_reducible rfl
              rotate_left
              · simp only [Act.put, List.setIfInBounds_toArray, List.set_cons_zero, List.set_cons_succ, iW, iY]
                rfl
              refine jH (i := 1) (N := some 49) (v := ?_) (a' := ?_) #[true, true, false, false, false, false, false, false, false, false, false] rfl rfl (iZ HT_.out (by kernel_rfl)) (fun _ _ _ h => h) (Or.inl ⟨by rfl, ?_⟩) ?_ ?_
              rotate_left
              · intro w'
                go_simp
                with_reducible rfl
              rotate_left
              · simp only [Act.put, List.setIfInBounds_toArray, List.set_cons_zero, List.set_cons_succ, iW, iY]
                rfl
              refine jH (i := 4) (N := some 52) (v := ?_) (a' := ?_) #[true, true, false, false, true, false, false, false, false, false, false] rfl rfl (iZ HT_.out (by kernel_rfl)) (fun _ _ _ h => h) (Or.inl ⟨by rfl, ?_⟩) ?_ ?_
              rotate_left
              · intro w'
                go_simp
                with_reducible rfl
              rotate_left
              · simp only [Act.put, List.setIfInBounds_toArray, List.set_cons_zero, List.set_cons_succ, iW, iY]
                rfl
              refine take_ (i := 2) (N := some 50) (v := ?_) (a' := ?_) #[true, true, true, false, true, false, false, false, false, false, false] rfl rfl (jL HT_.out HW_.out (by kernel_rfl)) (fun _ _ _ h => h) (Or.inl ⟨by rfl, ?_⟩) hHeld ?_ ?_
              rotate_left
              · rintro w' ⟨s0, s1, s2, s3⟩
                go_simp
                with_reducible rfl
              rotate_left
              · simp only [Act.put, List.setIfInBounds_toArray, List.set_cons_zero, List.set_cons_succ, iW, iY]
                rfl
              refine jH (i := 3) (N := some 51) (v := ?_) (a' := ?_) #[true, true, true, true, true, false, false, false, false, false, false] rfl rfl (iZ HT_.out (by kernel_rfl)) (fun _ _ _ h => h) (Or.inl ⟨by rfl, ?_⟩) ?_ ?_
              rotate_left
              · intro w'
                go_simp
                with_reducible rfl
              rotate_left
              · simp only [Act.put, List.setIfInBounds_toArray, List.set_cons_zero, List.set_cons_succ, iW, iY]
                rfl
              refine take_ (i := 5) (N := some 53) (v := ?_) (a' := ?_) #[true, true, true, true, true, true, false, false, false, false, false] rfl rfl (jL HT_.out HW_.out (by kernel_rfl)) (fun _ _ _ h => h) (Or.inl ⟨by rfl, ?_⟩) hHeld ?_ ?_
              rotate_left
              · rintro w' ⟨s0, s1, s2, s3⟩
                go_simp
                with_reducible rfl
              rotate_left
              · simp only [Act.put, List.setIfInBounds_toArray, List.set_cons_zero, List.set_cons_succ, iW, iY]
                rfl
              refine jH (i := 6) (N := some 54) (v := ?_) (a' := ?_) #[true, true, true, true, true, true, true, false, false, false, false] rfl rfl (iZ HT_.out (by kernel_rfl)) (fun _ _ _ h => h) (Or.inl ⟨by rfl, ?_⟩) ?_ ?_
              rotate_left
              · intro w'
                go_simp
                with_reducible rfl
              rotate_left
              · simp only [Act.put, List.setIfInBounds_toArray, List.set_cons_zero, List.set_cons_succ, iW, iY]
                rfl
              refine jH (i := 7) (N := some 55) (v := ?_) (a' := ?_) #[true, true, true, true, true, true, true, true, false, false, false] rfl rfl (iZ HT_.out (by kernel_rfl)) (fun _ _ _ h => h) (Or.inl ⟨by rfl, ?_⟩) ?_ ?_
              rotate_left
              · intro w'
                go_simp
                with_reducible rfl
              rotate_left
              · simp only [Act.put, List.setIfInBounds_toArray, List.set_cons_zero, List.set_cons_succ, iW, iY]
                rfl
              refine jH (i := 8) (N := some 56) (v := ?_) (a' := ?_) #[true, true, true, true, true, true, true, true, true, false, false] rfl rfl (iZ HT_.out (by kernel_rfl)) (fun _ _ _ h => h) (Or.inl ⟨by rfl, ?_⟩) ?_ ?_
              rotate_left
              · intro w'
                go_simp
                with_reducible rfl
              rotate_left
              · simp only [Act.put, List.setIfInBounds_toArray, List.set_cons_zero, List.set_cons_succ, iW, iY]
                rfl
              refine jH (i := 9) (N := some 57) (v := ?_) (a' := ?_) #[true, true, true, true, true, true, true, true, true, true, false] rfl rfl (iZ HT_.out (by kernel_rfl)) (fun _ _ _ h => h) (Or.inl ⟨by rfl, ?_⟩) ?_ ?_
              rotate_left
              · intro w'
                go_simp
                with_reducible rfl
              rotate_left
              · simp only [Act.put, List.setIfInBounds_toArray, List.set_cons_zero, List.set_cons_succ, iW, iY]
                rfl
              refine jH (i := 10) (N := some 12) (v := ?_) (a' := ?_) #[true, true, true, true, true, true, true, true, true, true, true] rfl rfl (iZ HT_.out (by kernel_rfl)) (fun _ _ _ h => h) (Or.inl ⟨by rfl, ?_⟩) ?_ ?_
              rotate_left
              · intro w'
                go_simp
                with_reducible rfl
              rotate_left
              · simp only [Act.put, List.setIfInBounds_toArray, List.set_cons_zero, List.set_cons_succ, iW, iY]
                rfl
              refine mJ (kN HT_.out (by kernel_rfl)) ?_
              have hcz118_0 : w117.cell? ⟨gb379, 0, none⟩ = some (.int .u32 t375) := (iI BK379.out 0).trans rfl
              have hcz118_1 : w117.cell? ⟨gb379, 1, none⟩ = some (.slice Ao113 t376.length co113) := (iI BK379.out 1).trans rfl
              have hfz118_0 := iH BK379.out 0
              have hfz118_1 := iH BK379.out 1
              try go_wp2_with (first | ((with_reducible refine iT (f := 30) rfl ?_); refine jG (some 64) rfl rfl Try.func30 (by kernel_rfl) rfl #[.agg #[.int .u32 t375, .slice Ao113 t376.length co113], .int .i64 (wrap64 (2 + (wrap64 (Int.tmod a1 200)))), .int .i64 3, .int .i64 (Int.tmod (wrap64 (a2_0)) (wrap64 (2 + (wrap64 (Int.tmod a1 200))))), .int .i64 (wrap64 ((wrap64 ((Int.tmod (wrap64 (a2_0)) (wrap64 (2 + (wrap64 (Int.tmod a1 200))))) + 1)) + (Int.tmod (wrap64 (a2_1)) (wrap64 ((wrap64 (2 + (wrap64 (Int.tmod a1 200)))) - (Int.tmod (wrap64 (a2_0)) (wrap64 (2 + (wrap64 (Int.tmod a1 200)))))))))), .int .i64 (Int.tmod (wrap64 ((wrap64 ((rd t380 0) + 1)) + (Int.tmod (wrap64 (a2_2)) 2))) 3)] rfl (by (try simp only [List.map_toArray, List.map_cons, List.map_nil]); first | done | rfl | (simp only [List.length_drop, List.length_take]; rfl)) ?_; (with_reducible refine (spans_Split.calls k t375 _ _ t376 (wrap64 (2 + (wrap64 (Int.tmod a1 200)))) 3 (Int.tmod (wrap64 (a2_0)) (wrap64 (2 + (wrap64 (Int.tmod a1 200))))) (wrap64 ((wrap64 ((Int.tmod (wrap64 (a2_0)) (wrap64 (2 + (wrap64 (Int.tmod a1 200))))) + 1)) + (Int.tmod (wrap64 (a2_1)) (wrap64 ((wrap64 (2 + (wrap64 (Int.tmod a1 200)))) - (Int.tmod (wrap64 (a2_0)) (wrap64 (2 + (wrap64 (Int.tmod a1 200)))))))))) (Int.tmod (wrap64 ((wrap64 ((rd t380 0) + 1)) + (Int.tmod (wrap64 (a2_2)) 2))) 3) t385 t386 t389 _ ?side1 ?side2 A10.out).mono ?_); (case side1 => repeat (first | exact (Kd.R_reads' HO378.out).2.2 | (with_reducible refine Kd.C_alloc ?_ _) | (with_reducible refine Kd.C_drewN ?_ _) | (with_reducible refine Kd.C_drew ?_))); (case side2 => exact (Kd.R_reads' HO378.out).2.1); rintro e w119 ⟨v387, rfl, ho0, hb⟩; refine ⟨_, rfl, ?_⟩; have n0_ := iC.mk (Kd.R_elder' (by (with_reducible repeat (first | apply Kd.R_alloc | apply Kd.R_drewN | apply Kd.R_drew)); exact HO378.out) (Kd.R_base ho0) hb); have n1_ := iC.mk (Kd.R_below (by (with_reducible repeat (first | apply Kd.R_alloc | apply Kd.R_drewN | apply Kd.R_drew)); exact HO382.out) hb); have n2_ := iC.mk (Kd.R_lower (Kd.R_new' ho0 (Kd.R_lt (by (with_reducible repeat (first | apply Kd.R_alloc | apply Kd.R_drewN | apply Kd.R_drew)); exact HO378.out))) (iP (by repeat (first | (with_reducible first | exact HB.out | apply iF | apply iD | apply iG | refine iE ?_ GE374.out | refine iE ?_ GE379.out) | exact HB.out)))); have n3_ := iC.mk (iL (g := gb374) (o := .cells #[.int .u16 a2_0, .int .u16 a2_1, .int .u8 a2_2] 55 (0, 0)) (bk_ BK374.out) hb); have n4_ := iC.mk (iL (g := gb379) (o := .cells #[.int .u32 t375, .slice Ao113 t376.length co113] 42 (0, 0)) (bk_ BK379.out) hb); have n5_ := iC.mk (iM (by repeat (first | (with_reducible first | exact HB.out | apply iF | apply iD | apply iG | refine iE ?_ GE374.out | refine iE ?_ GE379.out) | exact HB.out)) hb); clear HO378; clear HO382; clear BK374; clear BK379; clear HB; have HO378 := n0_; have HO382 := n1_; have HO388 := n2_; have BK374 := n3_; have BK379 := n4_; have HB := n5_; clear n0_ n1_ n2_ n3_ n4_ n5_; (try clear hb); (try clear hb2); (try clear hk); (try clear hi); (try clear ho0)) | ((with_reducible refine jE (N := 13) rfl ?_); (try (refine iV (by rfl) ?_; dsimp only)); refine jB ?hg (N := 13) ?hd (cs := #[.int .u32 0, .slice none 0 0]) (t := 42) ?hr ?_; (case hd => rfl); (case hg => rfl); (case hr => first | (go_simp; done) | (go_simp; rfl)); intro gb390 hg w120 hbox hb; have n0_ := iC.mk (Kd.R_below (by (with_reducible repeat (first | apply Kd.R_alloc | apply Kd.R_drewN | apply Kd.R_drew)); exact HO378.out) hb); have n1_ := iC.mk (Kd.R_below (by (with_reducible repeat (first | apply Kd.R_alloc | apply Kd.R_drewN | apply Kd.R_drew)); exact HO382.out) hb); have n2_ := iC.mk (Kd.R_below (by (with_reducible repeat (first | apply Kd.R_alloc | apply Kd.R_drewN | apply Kd.R_drew)); exact HO388.out) hb); have n3_ := iC.mk (iL (g := gb374) (o := .cells #[.int .u16 a2_0, .int .u16 a2_1, .int .u8 a2_2] 55 (0, 0)) (bk_ BK374.out) hb); have n4_ := iC.mk (iL (g := gb379) (o := .cells #[.int .u32 t375, .slice Ao113 t376.length co113] 42 (0, 0)) (bk_ BK379.out) hb); have n5_ := iC.mk (iM (by repeat (first | (with_reducible first | exact HB.out | apply iF | apply iD | apply iG | refine iE ?_ GE374.out | refine iE ?_ GE379.out) | exact HB.out)) hb); have n6_ := iC.mk (hbox); have n7_ := iC.mk ((by rw [hg]; exact (iP (by repeat (first | (with_reducible first | exact HB.out | apply iF | apply iD | apply iG | refine iE ?_ GE374.out | refine iE ?_ GE379.out) | exact HB.out))) : w.heap.size ≤ gb390)); have n8_ := iC.mk ((by rw [hg]; exact (iP (by repeat (first | (with_reducible first | exact HB.out | apply iF | apply iD | apply iG | refine iE ?_ GE374.out | refine iE ?_ GE379.out) | exact HB.out))) : w.heap.size ≤ gb390)); have n9_ := iC.mk ((by rw [hg]; exact Nat.ne_of_lt (jA (g := gb374) (o := .cells #[.int .u16 a2_0, .int .u16 a2_1, .int .u8 a2_2] 55 (0, 0)) (bk_ BK374.out)) : gb374 ≠ gb390)); have n10_ := iC.mk ((by rw [hg]; exact Nat.ne_of_gt (jA (g := gb374) (o := .cells #[.int .u16 a2_0, .int .u16 a2_1, .int .u8 a2_2] 55 (0, 0)) (bk_ BK374.out)) : gb390 ≠ gb374)); have n11_ := iC.mk ((by rw [hg]; exact Nat.ne_of_lt (jA (g := gb379) (o := .cells #[.int .u32 t375, .slice Ao113 t376.length co113] 42 (0, 0)) (bk_ BK379.out)) : gb379 ≠ gb390)); have n12_ := iC.mk ((by rw [hg]; exact Nat.ne_of_gt (jA (g := gb379) (o := .cells #[.int .u32 t375, .slice Ao113 t376.length co113] 42 (0, 0)) (bk_ BK379.out)) : gb390 ≠ gb379)); clear HO378; clear HO382; clear HO388; clear BK374; clear BK379; clear HB; have HO378 := n0_; have HO382 := n1_; have HO388 := n2_; have BK374 := n3_; have BK379 := n4_; have HB := n5_; have BK390 := n6_; have GW390 := n7_; have GE390 := n8_; have NB374_390 := n9_; have NB390_374 := n10_; have NB379_390 := n11_; have NB390_379 := n12_; clear n0_ n1_ n2_ n3_ n4_ n5_ n6_ n7_ n8_ n9_ n10_ n11_ n12_; clear hb hbox hg; have hnb121 := NB390_374.out; have hnc121 := NB374_390.out; have hnb122 := NB390_379.out; have hnc122 := NB379_390.out; have hcz123_0 : w120.cell? ⟨gb390, 0, none⟩ = some (.int .u32 0) := (iI BK390.out 0).trans rfl; have hcz123_1 : w120.cell? ⟨gb390, 1, none⟩ = some (.slice none 0 0) := (iI BK390.out 1).trans rfl; have hfz123_0 := iH BK390.out 0; have hfz123_1 := iH BK390.out 1; obtain ⟨Ao124, co124, eo124⟩ := Kd.R_slice HO388.out; subst eo124) | ((with_reducible refine iT (f := 29) rfl ?_); refine jG (some 69) rfl rfl Try.func29 (by kernel_rfl) rfl #[] rfl (by (try simp only [List.map_toArray, List.map_cons, List.map_nil]); first | done | rfl | (simp only [List.length_drop, List.length_take]; rfl)) ?_; (with_reducible refine (stratumlaw12_known.calls k  false _ A88.out).mono ?_); rintro e w125 ⟨rfl, hb⟩; refine ⟨_, rfl, ?_⟩; have n0_ := iC.mk (Kd.R_below (by (with_reducible repeat (first | apply Kd.R_alloc | apply Kd.R_drewN | apply Kd.R_drew)); exact (Kd.R_mono (Kd.R_far (p := ⟨gb390, 1, none⟩) (Kd.R_far (p := ⟨gb390, 0, none⟩) (Kd.R_types HO378.out BK390.out (by decide)) (fun _ hk => hk.2) (.int .u32 t385)) (fun _ hk => hk.2) (.slice Ao124 t386.length co124)) (fun _ h_ => h_.1))) hb); have n1_ := iC.mk (Kd.R_below (by (with_reducible repeat (first | apply Kd.R_alloc | apply Kd.R_drewN | apply Kd.R_drew)); exact (Kd.R_mono (Kd.R_far (p := ⟨gb390, 1, none⟩) (Kd.R_far (p := ⟨gb390, 0, none⟩) (Kd.R_types HO382.out BK390.out (by decide)) (fun _ hk => hk.2) (.int .u32 t385)) (fun _ hk => hk.2) (.slice Ao124 t386.length co124)) (fun _ h_ => h_.1))) hb); have n2_ := iC.mk (Kd.R_below (by (with_reducible repeat (first | apply Kd.R_alloc | apply Kd.R_drewN | apply Kd.R_drew)); exact (Kd.R_mono (Kd.R_far (p := ⟨gb390, 1, none⟩) (Kd.R_far (p := ⟨gb390, 0, none⟩) (Kd.R_types HO388.out BK390.out (by decide)) (fun _ hk => hk.2) (.int .u32 t385)) (fun _ hk => hk.2) (.slice Ao124 t386.length co124)) (fun _ h_ => h_.1))) hb); have n3_ := iC.mk (iL (g := gb374) (o := .cells #[.int .u16 a2_0, .int .u16 a2_1, .int .u8 a2_2] 55 (0, 0)) (by (with_reducible repeat (first | refine iK ?_ _ | refine iO ?_ | refine iJ ?_ _)); refine jD ?_ NB374_390.out _; (with_reducible repeat (first | refine iK ?_ _ | refine iO ?_ | refine iJ ?_ _)); refine jD ?_ NB374_390.out _; (with_reducible repeat (first | refine iK ?_ _ | refine iO ?_ | refine iJ ?_ _)); exact BK374.out) hb); have n4_ := iC.mk (iL (g := gb379) (o := .cells #[.int .u32 t375, .slice Ao113 t376.length co113] 42 (0, 0)) (by (with_reducible repeat (first | refine iK ?_ _ | refine iO ?_ | refine iJ ?_ _)); refine jD ?_ NB379_390.out _; (with_reducible repeat (first | refine iK ?_ _ | refine iO ?_ | refine iJ ?_ _)); refine jD ?_ NB379_390.out _; (with_reducible repeat (first | refine iK ?_ _ | refine iO ?_ | refine iJ ?_ _)); exact BK379.out) hb); have n5_ := iC.mk (iL (g := gb390) (o := .cells #[.int .u32 t385, .slice Ao124 t386.length co124] 42 (0, 0)) (by (with_reducible repeat (first | refine iK ?_ _ | refine iO ?_ | refine iJ ?_ _)); refine jC (cs := #[.int .u32 t385, .slice none 0 0]) ?_ 1 _ rfl; (with_reducible repeat (first | refine iK ?_ _ | refine iO ?_ | refine iJ ?_ _)); refine jC (cs := #[.int .u32 0, .slice none 0 0]) ?_ 0 _ rfl; (with_reducible repeat (first | refine iK ?_ _ | refine iO ?_ | refine iJ ?_ _)); exact BK390.out) hb); have n6_ := iC.mk (iM (by repeat (first | (with_reducible first | exact HB.out | apply iF | apply iD | apply iG | refine iE ?_ GE374.out | refine iE ?_ GE379.out | refine iE ?_ GE390.out) | exact HB.out)) hb); clear HO378; clear HO382; clear HO388; clear BK374; clear BK379; clear BK390; clear HB; have HO378 := n0_; have HO382 := n1_; have HO388 := n2_; have BK374 := n3_; have BK379 := n4_; have BK390 := n5_; have HB := n6_; clear n0_ n1_ n2_ n3_ n4_ n5_ n6_; (try clear hb); (try clear hb2); (try clear hk); (try clear hi)))
              go_ret
              exact ⟨by first | rfl | (simp [iR, iQ] <;> rfl) | (simp [*, iR, iQ] <;> rfl), by repeat (first | (with_reducible first | exact HB.out | apply iF | apply iD | apply iG | refine iE ?_ GE374.out | refine iE ?_ GE379.out | refine iE ?_ GE390.out) | exact HB.out)⟩
        · rw [if_neg c9] at H
          exact absurd H (by simp)
      · rw [if_neg c8] at H
        have c8b0 : ((t380.length : Int) == 1) = false := beq_eq_false_iff_ne.mpr c8
        have c8b1 : ((t380.length : Int) != 1) = true := bne_iff_ne.mpr c8
        replace H := Option.bind_eq_some_iff.mp H
        obtain ⟨t383, A1260, H⟩ := H
        replace H : (some t383) = some r := H
        have A126 := iC.mk A1260
        clear A1260
        obtain rfl := Option.some.inj H
        go_enter Try.func6, Try.ntmps6
        go_wp2_with (first | ((with_reducible refine jE (N := 5) rfl ?_); (try (refine iV (by rfl) ?_; dsimp only)); refine jB ?hg (N := 5) ?hd (cs := #[.int .u16 a2_0, .int .u16 a2_1, .int .u8 a2_2]) (t := 55) ?hr ?_; (case hd => rfl); (case hg => rfl); (case hr => first | (go_simp; done) | (go_simp; rfl)); intro gb374 hg w127 hbox hb; have n0_ := iC.mk (iM hb_ hb); have n1_ := iC.mk (hbox); have n2_ := iC.mk ((by rw [hg]; exact (iP hb_) : w.heap.size ≤ gb374)); have n3_ := iC.mk ((by rw [hg]; exact (iP hb_) : w.heap.size ≤ gb374)); clear HB; have HB := n0_; have BK374 := n1_; have GW374 := n2_; have GE374 := n3_; clear n0_ n1_ n2_ n3_; clear hb hbox hg) | ((with_reducible refine iT (f := 24) rfl ?_); refine jG (some 24) rfl rfl Try.func24 (by kernel_rfl) rfl #[.int .i64 (wrap64 (2 + (wrap64 (Int.tmod a1 200)))), .int .i64 3, .slice A0 l0.length c0] rfl (by (try simp only [List.map_toArray, List.map_cons, List.map_nil]); first | done | rfl | (simp only [List.length_drop, List.length_take]; rfl)) ?_; (with_reducible refine (stratumlaw12_Of.calls k (wrap64 (2 + (wrap64 (Int.tmod a1 200)))) 3 _ _ l0 t375 t376 _ ?side1 ?side2 A4.out).mono ?_); (case side1 => repeat (first | exact (Kd.C_below HR0.out HB.out) | (with_reducible refine Kd.C_alloc ?_ _) | (with_reducible refine Kd.C_drewN ?_ _) | (with_reducible refine Kd.C_drew ?_))); (case side2 => exact HC0.out); rintro e w128 ⟨v377, rfl, ho0, hb⟩; refine ⟨_, rfl, ?_⟩; have n0_ := iC.mk (Kd.R_lower ho0 (iP (by repeat (first | (with_reducible first | exact HB.out | apply iF | apply iD | apply iG | refine iE ?_ GE374.out) | exact HB.out)))); have n1_ := iC.mk (iL (g := gb374) (o := .cells #[.int .u16 a2_0, .int .u16 a2_1, .int .u8 a2_2] 55 (0, 0)) (bk_ BK374.out) hb); have n2_ := iC.mk (iM (by repeat (first | (with_reducible first | exact HB.out | apply iF | apply iD | apply iG | refine iE ?_ GE374.out) | exact HB.out)) hb); clear BK374; clear HB; have HO378 := n0_; have BK374 := n1_; have HB := n2_; clear n0_ n1_ n2_; (try clear hb); (try clear hb2); (try clear hk); (try clear hi); (try clear ho0)) | ((with_reducible refine jE (N := 8) rfl ?_); (try (refine iV (by rfl) ?_; dsimp only)); refine jB ?hg (N := 8) ?hd (cs := #[.int .u32 0, .slice none 0 0]) (t := 42) ?hr ?_; (case hd => rfl); (case hg => rfl); (case hr => first | (go_simp; done) | (go_simp; rfl)); intro gb379 hg w129 hbox hb; have n0_ := iC.mk (Kd.R_below (by (with_reducible repeat (first | apply Kd.R_alloc | apply Kd.R_drewN | apply Kd.R_drew)); exact HO378.out) hb); have n1_ := iC.mk (iL (g := gb374) (o := .cells #[.int .u16 a2_0, .int .u16 a2_1, .int .u8 a2_2] 55 (0, 0)) (bk_ BK374.out) hb); have n2_ := iC.mk (iM (by repeat (first | (with_reducible first | exact HB.out | apply iF | apply iD | apply iG | refine iE ?_ GE374.out) | exact HB.out)) hb); have n3_ := iC.mk (hbox); have n4_ := iC.mk ((by rw [hg]; exact (iP (by repeat (first | (with_reducible first | exact HB.out | apply iF | apply iD | apply iG | refine iE ?_ GE374.out) | exact HB.out))) : w.heap.size ≤ gb379)); have n5_ := iC.mk ((by rw [hg]; exact (iP (by repeat (first | (with_reducible first | exact HB.out | apply iF | apply iD | apply iG | refine iE ?_ GE374.out) | exact HB.out))) : w.heap.size ≤ gb379)); have n6_ := iC.mk ((by rw [hg]; exact Nat.ne_of_lt (jA (g := gb374) (o := .cells #[.int .u16 a2_0, .int .u16 a2_1, .int .u8 a2_2] 55 (0, 0)) (bk_ BK374.out)) : gb374 ≠ gb379)); have n7_ := iC.mk ((by rw [hg]; exact Nat.ne_of_gt (jA (g := gb374) (o := .cells #[.int .u16 a2_0, .int .u16 a2_1, .int .u8 a2_2] 55 (0, 0)) (bk_ BK374.out)) : gb379 ≠ gb374)); clear HO378; clear BK374; clear HB; have HO378 := n0_; have BK374 := n1_; have HB := n2_; have BK379 := n3_; have GW379 := n4_; have GE379 := n5_; have NB374_379 := n6_; have NB379_374 := n7_; clear n0_ n1_ n2_ n3_ n4_ n5_ n6_ n7_; clear hb hbox hg; have hnb130 := NB379_374.out; have hnc130 := NB374_379.out; have hcz131_0 : w129.cell? ⟨gb379, 0, none⟩ = some (.int .u32 0) := (iI BK379.out 0).trans rfl; have hcz131_1 : w129.cell? ⟨gb379, 1, none⟩ = some (.slice none 0 0) := (iI BK379.out 1).trans rfl; have hfz131_0 := iH BK379.out 0; have hfz131_1 := iH BK379.out 1; obtain ⟨Ao132, co132, eo132⟩ := Kd.R_slice HO378.out; subst eo132; have hcz133_0 : w129.cell? ⟨gb374, 0, none⟩ = some (.int .u16 a2_0) := (iI BK374.out 0).trans rfl; have hcz133_1 : w129.cell? ⟨gb374, 1, none⟩ = some (.int .u16 a2_1) := (iI BK374.out 1).trans rfl; have hcz133_2 : w129.cell? ⟨gb374, 2, none⟩ = some (.int .u8 a2_2) := (iI BK374.out 2).trans rfl; have hfz133_0 := iH BK374.out 0; have hfz133_1 := iH BK374.out 1; have hfz133_2 := iH BK374.out 2) | ((with_reducible refine iT (f := 28) rfl ?_); refine jG (some 43) rfl rfl Try.func28 (by kernel_rfl) rfl #[.agg #[.int .u32 t375, .slice Ao132 t376.length co132], .int .i64 (Int.tmod (wrap64 (a2_0)) (wrap64 (2 + (wrap64 (Int.tmod a1 200))))), .int .i64 (wrap64 ((wrap64 ((Int.tmod (wrap64 (a2_0)) (wrap64 (2 + (wrap64 (Int.tmod a1 200))))) + 1)) + (Int.tmod (wrap64 (a2_1)) (wrap64 ((wrap64 (2 + (wrap64 (Int.tmod a1 200)))) - (Int.tmod (wrap64 (a2_0)) (wrap64 (2 + (wrap64 (Int.tmod a1 200))))))))))] rfl (by (try simp only [List.map_toArray, List.map_cons, List.map_nil]); first | done | rfl | (simp only [List.length_drop, List.length_take]; rfl)) ?_; (with_reducible refine (spans_Nodes.calls t375 _ _ t376 (Int.tmod (wrap64 (a2_0)) (wrap64 (2 + (wrap64 (Int.tmod a1 200))))) (wrap64 ((wrap64 ((Int.tmod (wrap64 (a2_0)) (wrap64 (2 + (wrap64 (Int.tmod a1 200))))) + 1)) + (Int.tmod (wrap64 (a2_1)) (wrap64 ((wrap64 (2 + (wrap64 (Int.tmod a1 200)))) - (Int.tmod (wrap64 (a2_0)) (wrap64 (2 + (wrap64 (Int.tmod a1 200)))))))))) t380 _ ?side1 ?side2 A7.out).mono ?_); (case side1 => refine (Kd.R_reads' (e := 60) (base := w.heap.size) (ok := fun k_ => True) (n := t376.length) (c := co132) ?_).2.2; exact (by (with_reducible repeat (first | apply Kd.R_alloc | apply Kd.R_drewN | apply Kd.R_drew)); exact (Kd.R_mono (Kd.R_far (p := ⟨gb379, 1, none⟩) (Kd.R_far (p := ⟨gb379, 0, none⟩) (Kd.R_types HO378.out BK379.out (by decide)) (fun _ hk => hk.2) (.int .u32 t375)) (fun _ hk => hk.2) (.slice Ao132 t376.length co132)) (fun _ h_ => h_.1)))); (case side2 => exact (Kd.R_reads' HO378.out).2.1); rintro e w134 ⟨v381, rfl, ho0, hb⟩; refine ⟨_, rfl, ?_⟩; have n0_ := iC.mk (Kd.R_below (by (with_reducible repeat (first | apply Kd.R_alloc | apply Kd.R_drewN | apply Kd.R_drew)); exact (Kd.R_mono (Kd.R_far (p := ⟨gb379, 1, none⟩) (Kd.R_far (p := ⟨gb379, 0, none⟩) (Kd.R_types HO378.out BK379.out (by decide)) (fun _ hk => hk.2) (.int .u32 t375)) (fun _ hk => hk.2) (.slice Ao132 t376.length co132)) (fun _ h_ => h_.1))) hb); have n1_ := iC.mk (Kd.R_lower ho0 (iP (by repeat (first | (with_reducible first | exact HB.out | apply iF | apply iD | apply iG | refine iE ?_ GE374.out | refine iE ?_ GE379.out) | exact HB.out)))); have n2_ := iC.mk (iL (g := gb374) (o := .cells #[.int .u16 a2_0, .int .u16 a2_1, .int .u8 a2_2] 55 (0, 0)) (by (with_reducible repeat (first | refine iK ?_ _ | refine iO ?_ | refine iJ ?_ _)); refine jD ?_ NB374_379.out _; (with_reducible repeat (first | refine iK ?_ _ | refine iO ?_ | refine iJ ?_ _)); refine jD ?_ NB374_379.out _; (with_reducible repeat (first | refine iK ?_ _ | refine iO ?_ | refine iJ ?_ _)); exact BK374.out) hb); have n3_ := iC.mk (iL (g := gb379) (o := .cells #[.int .u32 t375, .slice Ao132 t376.length co132] 42 (0, 0)) (by (with_reducible repeat (first | refine iK ?_ _ | refine iO ?_ | refine iJ ?_ _)); refine jC (cs := #[.int .u32 t375, .slice none 0 0]) ?_ 1 _ rfl; (with_reducible repeat (first | refine iK ?_ _ | refine iO ?_ | refine iJ ?_ _)); refine jC (cs := #[.int .u32 0, .slice none 0 0]) ?_ 0 _ rfl; (with_reducible repeat (first | refine iK ?_ _ | refine iO ?_ | refine iJ ?_ _)); exact BK379.out) hb); have n4_ := iC.mk (iM (by repeat (first | (with_reducible first | exact HB.out | apply iF | apply iD | apply iG | refine iE ?_ GE374.out | refine iE ?_ GE379.out) | exact HB.out)) hb); clear HO378; clear BK374; clear BK379; clear HB; have HO378 := n0_; have HO382 := n1_; have BK374 := n2_; have BK379 := n3_; have HB := n4_; clear n0_ n1_ n2_ n3_ n4_; (try clear hb); (try clear hb2); (try clear hk); (try clear hi); (try clear ho0); obtain ⟨Ao135, co135, eo135⟩ := Kd.R_slice HO382.out; subst eo135) | ((with_reducible refine iT (f := 29) rfl ?_); refine jG (some 47) rfl rfl Try.func29 (by kernel_rfl) rfl #[] rfl (by (try simp only [List.map_toArray, List.map_cons, List.map_nil]); first | done | rfl | (simp only [List.length_drop, List.length_take]; rfl)) ?_; (with_reducible refine (stratumlaw12_known.calls k  t383 _ A126.out).mono ?_); rintro e w136 ⟨rfl, hb⟩; refine ⟨_, rfl, ?_⟩; have n0_ := iC.mk (Kd.R_below (by (with_reducible repeat (first | apply Kd.R_alloc | apply Kd.R_drewN | apply Kd.R_drew)); exact HO378.out) hb); have n1_ := iC.mk (Kd.R_below (by (with_reducible repeat (first | apply Kd.R_alloc | apply Kd.R_drewN | apply Kd.R_drew)); exact HO382.out) hb); have n2_ := iC.mk (iL (g := gb374) (o := .cells #[.int .u16 a2_0, .int .u16 a2_1, .int .u8 a2_2] 55 (0, 0)) (bk_ BK374.out) hb); have n3_ := iC.mk (iL (g := gb379) (o := .cells #[.int .u32 t375, .slice Ao132 t376.length co132] 42 (0, 0)) (bk_ BK379.out) hb); have n4_ := iC.mk (iM (by repeat (first | (with_reducible first | exact HB.out | apply iF | apply iD | apply iG | refine iE ?_ GE374.out | refine iE ?_ GE379.out) | exact HB.out)) hb); clear HO378; clear HO382; clear BK374; clear BK379; clear HB; have HO378 := n0_; have HO382 := n1_; have BK374 := n2_; have BK379 := n3_; have HB := n4_; clear n0_ n1_ n2_ n3_ n4_; (try clear hb); (try clear hb2); (try clear hk); (try clear hi)))
        go_ret
        exact ⟨by first | rfl | (simp [iR, iQ] <;> rfl) | (simp [*, iR, iQ] <;> rfl), by repeat (first | (with_reducible first | exact HB.out | apply iF | apply iD | apply iG | refine iE ?_ GE374.out | refine iE ?_ GE379.out) | exact HB.out)⟩
end Go.Proofs.Ytbpdejbkfpkphaa.K
end
