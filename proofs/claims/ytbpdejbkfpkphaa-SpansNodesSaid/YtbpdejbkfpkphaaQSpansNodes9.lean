/- Parts of the proof, one behind the other: K45. -/
import Derived.Test.YtbpdejbkfpkphaaQSpansNodes8
set_option linter.unusedVariables false
set_option linter.unusedSimpArgs false
section
namespace Go.Proofs.Ytbpdejbkfpkphaa.K
open Go.RowKit Go.Proofs.YtbpdejbkfpkphaaW.PrintWords Go.Proofs.YtbpdejbkfpkphaaW.PrintLast Go.Proofs.YtbpdejbkfpkphaaW.PrintMore
attribute [local go_sem] jS jR kC jZ jP jQ jU jV
mutual
def stratumlaw12_SpansNodes.l0 : Nat → Int → List Int → List Int → List Int → Int → Int → List (S60) → Option (Bool)
  | 0, _, _, _, _, _, _, _ => none
  | k + 1, x8, x11, x12, x13, x14, x410000, x410001 => if x14 < (x11.length : Int) then (if x14 > 0 then (if 0 ≤ x14 then (if 0 ≤ (wrap64 (x14 - 1)) then (if (wrap64 (x14 - 1)) < (x11.length : Int) then (if (rd x11 x14) ≤ (rd x11 (wrap64 (x14 - 1))) then (some false) else ((stratumlaw12_has.f k x12 (rd x11 x14)).bind fun t422 => (if t422 = true then (stratumlaw12_SpansNodes.l0 k x8 x11 x12 x13 (wrap64 (x14 + 1)) x410000 x410001) else ((stratumlaw12_has.f k x13 (rd x11 x14)).bind fun t424 => (if t424 = true then (stratumlaw12_SpansNodes.l0 k x8 x11 x12 x13 (wrap64 (x14 + 1)) x410000 x410001) else (some false)))))) else (none)) else (none)) else (none)) else (if 0 ≤ x14 then ((stratumlaw12_has.f k x12 (rd x11 x14)).bind fun t426 => (if t426 = true then (stratumlaw12_SpansNodes.l0 k x8 x11 x12 x13 (wrap64 (x14 + 1)) x410000 x410001) else ((stratumlaw12_has.f k x13 (rd x11 x14)).bind fun t428 => (if t428 = true then (stratumlaw12_SpansNodes.l0 k x8 x11 x12 x13 (wrap64 (x14 + 1)) x410000 x410001) else (some false))))) else (none))) else (stratumlaw12_SpansNodes.l1 k x8 x11 x12 0 x410000 x410001)
def stratumlaw12_SpansNodes.l1 : Nat → Int → List Int → List Int → Int → Int → List (S60) → Option (Bool)
  | 0, _, _, _, _, _, _ => none
  | k + 1, x8, x11, x12, x15, x410000, x410001 => if x15 < (x12.length : Int) then (if 0 ≤ x15 then ((stratumlaw12_has.f k x11 (rd x12 x15)).bind fun t430 => (if t430 = true then (stratumlaw12_SpansNodes.l1 k x8 x11 x12 (wrap64 (x15 + 1)) x410000 x410001) else (some false))) else (none)) else ((stratumlaw12_known.f k).bind fun t431 => (if t431 = true then ((spans_Nodes.f x410000 x410001 x8 x8).bind fun t432 => (if (t432.length : Int) = 0 then (some (decide ((x11.length : Int) > 0))) else (some false))) else (some false)))
end
def stratumlaw12_SpansNodes.f (k : Nat) (l0 : List (S55)) (a1_0 : Int) (a1_1 : Int) (a1_2 : Int) (a2 : Int) : Option (Bool) := (stratumlaw12_Of.f k 200 4 l0).bind fun bt405 => (if (wrap64 (200 - (Int.tmod (wrap64 (a1_0)) 200))) = 0 then (none) else (if (wrap64 ((wrap64 ((wrap64 ((wrap64 ((Int.tmod (wrap64 (a1_0)) 200) + 1)) + (Int.tmod (wrap64 (a1_1)) (wrap64 (200 - (Int.tmod (wrap64 (a1_0)) 200)))))) - (Int.tmod (wrap64 (a1_0)) 200))) + 1)) = 0 then (none) else ((spans_Nodes.f bt405.1 bt405.2 (Int.tmod (wrap64 (a1_0)) 200) (wrap64 ((wrap64 ((Int.tmod (wrap64 (a1_0)) 200) + 1)) + (Int.tmod (wrap64 (a1_1)) (wrap64 (200 - (Int.tmod (wrap64 (a1_0)) 200))))))).bind fun t410 => ((spans_Nodes.f bt405.1 bt405.2 (Int.tmod (wrap64 (a1_0)) 200) (wrap64 ((Int.tmod (wrap64 (a1_0)) 200) + (Int.tmod (wrap64 (a2)) (wrap64 ((wrap64 ((wrap64 ((wrap64 ((Int.tmod (wrap64 (a1_0)) 200) + 1)) + (Int.tmod (wrap64 (a1_1)) (wrap64 (200 - (Int.tmod (wrap64 (a1_0)) 200)))))) - (Int.tmod (wrap64 (a1_0)) 200))) + 1)))))).bind fun t413 => ((spans_Nodes.f bt405.1 bt405.2 (wrap64 ((Int.tmod (wrap64 (a1_0)) 200) + (Int.tmod (wrap64 (a2)) (wrap64 ((wrap64 ((wrap64 ((wrap64 ((Int.tmod (wrap64 (a1_0)) 200) + 1)) + (Int.tmod (wrap64 (a1_1)) (wrap64 (200 - (Int.tmod (wrap64 (a1_0)) 200)))))) - (Int.tmod (wrap64 (a1_0)) 200))) + 1))))) (wrap64 ((wrap64 ((Int.tmod (wrap64 (a1_0)) 200) + 1)) + (Int.tmod (wrap64 (a1_1)) (wrap64 (200 - (Int.tmod (wrap64 (a1_0)) 200))))))).bind fun t416 => (stratumlaw12_SpansNodes.l0 k (Int.tmod (wrap64 (a1_0)) 200) t410 t413 t416 0 bt405.1 bt405.2))))))
theorem stratumlaw12_SpansNodes.mono_l : ∀ k, (∀ y0 y1 y2 y3 y4 y5 y6, LeO (stratumlaw12_SpansNodes.l0 k y0 y1 y2 y3 y4 y5 y6) (stratumlaw12_SpansNodes.l0 (k + 1) y0 y1 y2 y3 y4 y5 y6)) ∧ (∀ y0 y1 y2 y3 y4 y5, LeO (stratumlaw12_SpansNodes.l1 k y0 y1 y2 y3 y4 y5) (stratumlaw12_SpansNodes.l1 (k + 1) y0 y1 y2 y3 y4 y5))
  | 0 => ⟨fun _ _ _ _ _ _ _ r h => by simp [stratumlaw12_SpansNodes.l0] at h, fun _ _ _ _ _ _ r h => by simp [stratumlaw12_SpansNodes.l1] at h⟩
  | k + 1 => by
    obtain ⟨ih0, ih1⟩ := stratumlaw12_SpansNodes.mono_l k
    refine ⟨?_, ?_⟩
    · intro y0 y1 y2 y3 y4 y5 y6
      unfold stratumlaw12_SpansNodes.l0
      repeat' first
      | (with_reducible exact ih0 _ _ _ _ _ _ _)
      | (with_reducible exact ih1 _ _ _ _ _ _)
      | (with_reducible exact stratumlaw12_Of.mono _ _ _ _)
      | (with_reducible exact stratumlaw12_has.mono _ _ _)
      | (with_reducible exact stratumlaw12_known.mono _)
      | (with_reducible exact LeO.refl _)
      | (with_reducible exact LeO.none _)
      | (with_reducible refine LeO.ite ?_ ?_)
      | (with_reducible refine LeO.bind ?_ (fun _ => ?_))
      | exact ih0 _ _ _ _ _ _ _
      | exact ih1 _ _ _ _ _ _
      | exact stratumlaw12_Of.mono _ _ _ _
      | exact stratumlaw12_has.mono _ _ _
      | exact stratumlaw12_known.mono _
      | exact LeO.none _
      | refine LeO.ite ?_ ?_
      | refine LeO.bind ?_ (fun _ => ?_)
    · intro y0 y1 y2 y3 y4 y5
      unfold stratumlaw12_SpansNodes.l1
      repeat' first
      | (with_reducible exact ih0 _ _ _ _ _ _ _)
      | (with_reducible exact ih1 _ _ _ _ _ _)
      | (with_reducible exact stratumlaw12_Of.mono _ _ _ _)
      | (with_reducible exact stratumlaw12_has.mono _ _ _)
      | (with_reducible exact stratumlaw12_known.mono _)
      | (with_reducible exact LeO.refl _)
      | (with_reducible exact LeO.none _)
      | (with_reducible refine LeO.ite ?_ ?_)
      | (with_reducible refine LeO.bind ?_ (fun _ => ?_))
      | exact ih0 _ _ _ _ _ _ _
      | exact ih1 _ _ _ _ _ _
      | exact stratumlaw12_Of.mono _ _ _ _
      | exact stratumlaw12_has.mono _ _ _
      | exact stratumlaw12_known.mono _
      | exact LeO.none _
      | refine LeO.ite ?_ ?_
      | refine LeO.bind ?_ (fun _ => ?_)
theorem stratumlaw12_SpansNodes.mono : ∀ a0 a1 a2 a3 a4 k, LeO (stratumlaw12_SpansNodes.f k a0 a1 a2 a3 a4) (stratumlaw12_SpansNodes.f (k + 1) a0 a1 a2 a3 a4) := by
  intro a0 a1 a2 a3 a4 k
  obtain ⟨ih0, ih1⟩ := stratumlaw12_SpansNodes.mono_l k
  unfold stratumlaw12_SpansNodes.f
  repeat' first
      | (with_reducible exact ih0 _ _ _ _ _ _ _)
      | (with_reducible exact ih1 _ _ _ _ _ _)
      | (with_reducible exact stratumlaw12_Of.mono _ _ _ _)
      | (with_reducible exact stratumlaw12_has.mono _ _ _)
      | (with_reducible exact stratumlaw12_known.mono _)
      | (with_reducible exact LeO.refl _)
      | (with_reducible exact LeO.none _)
      | (with_reducible refine LeO.ite ?_ ?_)
      | (with_reducible refine LeO.bind ?_ (fun _ => ?_))
      | exact ih0 _ _ _ _ _ _ _
      | exact ih1 _ _ _ _ _ _
      | exact stratumlaw12_Of.mono _ _ _ _
      | exact stratumlaw12_has.mono _ _ _
      | exact stratumlaw12_known.mono _
      | exact LeO.none _
      | refine LeO.ite ?_ ?_
      | refine LeO.bind ?_ (fun _ => ?_)
def stratumlaw12_SpansNodes.T11 : Bool × List (List Nat × List Nat) := (true, [([], []), ([0], [0]), ([1], [1]), ([2], [2]), ([2], [2]), ([3, 4, 2], [2, 3, 4]), ([5, 2], [2, 5]), ([2], [2]), ([2], [2]), ([8, 2], [2, 8]), ([7, 9, 2], [2, 7, 9]), ([10, 2], [2, 10]), ([6, 11, 2], [2, 6, 11]), ([2, 12], [2, 12]), ([13, 2], [13]), ([14], [14]), ([14], [14]), ([14], [14]), ([16, 17, 14], [14, 16, 17]), ([18, 14], [14, 18]), ([15, 19, 14, 14], [14, 15, 19]), ([20, 14], [14, 20]), ([21, 20, 14], [14, 21]), ([22], [22]), ([22], [22]), ([22], [22]), ([24, 25, 22], [22, 24, 25]), ([26, 22], [22, 26]), ([23, 27, 22, 22], [22, 23, 27]), ([28, 22], [22, 28]), ([22, 29, 14], [14, 22, 29]), ([14, 30], [14, 30])])
def stratumlaw12_SpansNodes.B11 : List Nat := [0, 1, 3, 7, 7, 31, 63, 7, 7, 263, 903, 1927, 4095, 8191, 16383, 32767, 32767, 32767, 229375, 491519, 1048575, 2097151, 4194303, 8388607, 8388607, 8388607, 58720255, 125829119, 268435455, 536870911, 1073741823, 2147483647]
theorem stratumlaw12_SpansNodes.tab11 : rtab .any (opsOf Try.f7 11) = stratumlaw12_SpansNodes.T11 := by kernel_rfl
theorem stratumlaw12_SpansNodes.bits11 : lH stratumlaw12_SpansNodes.T11.2 stratumlaw12_SpansNodes.B11 = true := by kernel_rfl
set_option maxHeartbeats 8000000 in
set_option maxRecDepth 100000 in
theorem stratumlaw12_SpansNodes.calls (k : Nat) (A0 : Option Addr) (c0 : Nat) (l0 : List (S55)) (a1_0 : Int) (a1_1 : Int) (a1_2 : Int) (a2 : Int) (r : Bool) (w : World) (hr0 : Kd.C k55 w A0 l0.length l0) (hc0 : l0.length ≤ c0) (h : stratumlaw12_SpansNodes.f k l0 a1_0 a1_1 a1_2 a2 = some r) :
    Calls Try.prog 7 #[.slice A0 l0.length c0, .agg #[.int .u16 a1_0, .int .u16 a1_1, .int .u8 a1_2], .int .u16 a2] w fun e w' => e = .returned (.bool r) ∧ Below w.heap.size w w' := by
  have hu55 := Try.underlying55
  have hu42 := Try.underlying42
  have HR0 := iC.mk hr0
  have HC0 := iC.mk hc0
  clear hr0 hc0
  have HB := iC.mk (Below.refl w.heap.size w)
  have H : ((stratumlaw12_Of.f k 200 4 l0).bind fun bt405 => (if (wrap64 (200 - (Int.tmod (wrap64 (a1_0)) 200))) = 0 then (none) else (if (wrap64 ((wrap64 ((wrap64 ((wrap64 ((Int.tmod (wrap64 (a1_0)) 200) + 1)) + (Int.tmod (wrap64 (a1_1)) (wrap64 (200 - (Int.tmod (wrap64 (a1_0)) 200)))))) - (Int.tmod (wrap64 (a1_0)) 200))) + 1)) = 0 then (none) else ((spans_Nodes.f bt405.1 bt405.2 (Int.tmod (wrap64 (a1_0)) 200) (wrap64 ((wrap64 ((Int.tmod (wrap64 (a1_0)) 200) + 1)) + (Int.tmod (wrap64 (a1_1)) (wrap64 (200 - (Int.tmod (wrap64 (a1_0)) 200))))))).bind fun t410 => ((spans_Nodes.f bt405.1 bt405.2 (Int.tmod (wrap64 (a1_0)) 200) (wrap64 ((Int.tmod (wrap64 (a1_0)) 200) + (Int.tmod (wrap64 (a2)) (wrap64 ((wrap64 ((wrap64 ((wrap64 ((Int.tmod (wrap64 (a1_0)) 200) + 1)) + (Int.tmod (wrap64 (a1_1)) (wrap64 (200 - (Int.tmod (wrap64 (a1_0)) 200)))))) - (Int.tmod (wrap64 (a1_0)) 200))) + 1)))))).bind fun t413 => ((spans_Nodes.f bt405.1 bt405.2 (wrap64 ((Int.tmod (wrap64 (a1_0)) 200) + (Int.tmod (wrap64 (a2)) (wrap64 ((wrap64 ((wrap64 ((wrap64 ((Int.tmod (wrap64 (a1_0)) 200) + 1)) + (Int.tmod (wrap64 (a1_1)) (wrap64 (200 - (Int.tmod (wrap64 (a1_0)) 200)))))) - (Int.tmod (wrap64 (a1_0)) 200))) + 1))))) (wrap64 ((wrap64 ((Int.tmod (wrap64 (a1_0)) 200) + 1)) + (Int.tmod (wrap64 (a1_1)) (wrap64 (200 - (Int.tmod (wrap64 (a1_0)) 200))))))).bind fun t416 => (stratumlaw12_SpansNodes.l0 k (Int.tmod (wrap64 (a1_0)) 200) t410 t413 t416 0 bt405.1 bt405.2))))))) = some r := h
  clear h
  replace H := Option.bind_eq_some_iff.mp H
  obtain ⟨⟨t405, t406⟩, A40, H⟩ := H
  replace H : (if (wrap64 (200 - (Int.tmod (wrap64 (a1_0)) 200))) = 0 then (none) else (if (wrap64 ((wrap64 ((wrap64 ((wrap64 ((Int.tmod (wrap64 (a1_0)) 200) + 1)) + (Int.tmod (wrap64 (a1_1)) (wrap64 (200 - (Int.tmod (wrap64 (a1_0)) 200)))))) - (Int.tmod (wrap64 (a1_0)) 200))) + 1)) = 0 then (none) else ((spans_Nodes.f t405 t406 (Int.tmod (wrap64 (a1_0)) 200) (wrap64 ((wrap64 ((Int.tmod (wrap64 (a1_0)) 200) + 1)) + (Int.tmod (wrap64 (a1_1)) (wrap64 (200 - (Int.tmod (wrap64 (a1_0)) 200))))))).bind fun t410 => ((spans_Nodes.f t405 t406 (Int.tmod (wrap64 (a1_0)) 200) (wrap64 ((Int.tmod (wrap64 (a1_0)) 200) + (Int.tmod (wrap64 (a2)) (wrap64 ((wrap64 ((wrap64 ((wrap64 ((Int.tmod (wrap64 (a1_0)) 200) + 1)) + (Int.tmod (wrap64 (a1_1)) (wrap64 (200 - (Int.tmod (wrap64 (a1_0)) 200)))))) - (Int.tmod (wrap64 (a1_0)) 200))) + 1)))))).bind fun t413 => ((spans_Nodes.f t405 t406 (wrap64 ((Int.tmod (wrap64 (a1_0)) 200) + (Int.tmod (wrap64 (a2)) (wrap64 ((wrap64 ((wrap64 ((wrap64 ((Int.tmod (wrap64 (a1_0)) 200) + 1)) + (Int.tmod (wrap64 (a1_1)) (wrap64 (200 - (Int.tmod (wrap64 (a1_0)) 200)))))) - (Int.tmod (wrap64 (a1_0)) 200))) + 1))))) (wrap64 ((wrap64 ((Int.tmod (wrap64 (a1_0)) 200) + 1)) + (Int.tmod (wrap64 (a1_1)) (wrap64 (200 - (Int.tmod (wrap64 (a1_0)) 200))))))).bind fun t416 => (stratumlaw12_SpansNodes.l0 k (Int.tmod (wrap64 (a1_0)) 200) t410 t413 t416 0 t405 t406)))))) = some r := H
  have A4 := iC.mk A40
  clear A40
  by_cases c5 : (wrap64 (200 - (Int.tmod (wrap64 (a1_0)) 200))) = 0
  · rw [if_pos c5] at H
    exact absurd H (by simp)
  · rw [if_neg c5] at H
    have c5b0 : ((wrap64 (200 - (Int.tmod (wrap64 (a1_0)) 200))) == 0) = false := beq_eq_false_iff_ne.mpr c5
    have c5b1 : ((wrap64 (200 - (Int.tmod (wrap64 (a1_0)) 200))) != 0) = true := bne_iff_ne.mpr c5
    by_cases c6 : (wrap64 ((wrap64 ((wrap64 ((wrap64 ((Int.tmod (wrap64 (a1_0)) 200) + 1)) + (Int.tmod (wrap64 (a1_1)) (wrap64 (200 - (Int.tmod (wrap64 (a1_0)) 200)))))) - (Int.tmod (wrap64 (a1_0)) 200))) + 1)) = 0
    · rw [if_pos c6] at H
      exact absurd H (by simp)
    · rw [if_neg c6] at H
      have c6b0 : ((wrap64 ((wrap64 ((wrap64 ((wrap64 ((Int.tmod (wrap64 (a1_0)) 200) + 1)) + (Int.tmod (wrap64 (a1_1)) (wrap64 (200 - (Int.tmod (wrap64 (a1_0)) 200)))))) - (Int.tmod (wrap64 (a1_0)) 200))) + 1)) == 0) = false := beq_eq_false_iff_ne.mpr c6
      have c6b1 : ((wrap64 ((wrap64 ((wrap64 ((wrap64 ((Int.tmod (wrap64 (a1_0)) 200) + 1)) + (Int.tmod (wrap64 (a1_1)) (wrap64 (200 - (Int.tmod (wrap64 (a1_0)) 200)))))) - (Int.tmod (wrap64 (a1_0)) 200))) + 1)) != 0) = true := bne_iff_ne.mpr c6
      replace H := Option.bind_eq_some_iff.mp H
      obtain ⟨t410, A70, H⟩ := H
      replace H : ((spans_Nodes.f t405 t406 (Int.tmod (wrap64 (a1_0)) 200) (wrap64 ((Int.tmod (wrap64 (a1_0)) 200) + (Int.tmod (wrap64 (a2)) (wrap64 ((wrap64 ((wrap64 ((wrap64 ((Int.tmod (wrap64 (a1_0)) 200) + 1)) + (Int.tmod (wrap64 (a1_1)) (wrap64 (200 - (Int.tmod (wrap64 (a1_0)) 200)))))) - (Int.tmod (wrap64 (a1_0)) 200))) + 1)))))).bind fun t413 => ((spans_Nodes.f t405 t406 (wrap64 ((Int.tmod (wrap64 (a1_0)) 200) + (Int.tmod (wrap64 (a2)) (wrap64 ((wrap64 ((wrap64 ((wrap64 ((Int.tmod (wrap64 (a1_0)) 200) + 1)) + (Int.tmod (wrap64 (a1_1)) (wrap64 (200 - (Int.tmod (wrap64 (a1_0)) 200)))))) - (Int.tmod (wrap64 (a1_0)) 200))) + 1))))) (wrap64 ((wrap64 ((Int.tmod (wrap64 (a1_0)) 200) + 1)) + (Int.tmod (wrap64 (a1_1)) (wrap64 (200 - (Int.tmod (wrap64 (a1_0)) 200))))))).bind fun t416 => (stratumlaw12_SpansNodes.l0 k (Int.tmod (wrap64 (a1_0)) 200) t410 t413 t416 0 t405 t406))) = some r := H
      have A7 := iC.mk A70
      clear A70
      replace H := Option.bind_eq_some_iff.mp H
      obtain ⟨t413, A80, H⟩ := H
      replace H : ((spans_Nodes.f t405 t406 (wrap64 ((Int.tmod (wrap64 (a1_0)) 200) + (Int.tmod (wrap64 (a2)) (wrap64 ((wrap64 ((wrap64 ((wrap64 ((Int.tmod (wrap64 (a1_0)) 200) + 1)) + (Int.tmod (wrap64 (a1_1)) (wrap64 (200 - (Int.tmod (wrap64 (a1_0)) 200)))))) - (Int.tmod (wrap64 (a1_0)) 200))) + 1))))) (wrap64 ((wrap64 ((Int.tmod (wrap64 (a1_0)) 200) + 1)) + (Int.tmod (wrap64 (a1_1)) (wrap64 (200 - (Int.tmod (wrap64 (a1_0)) 200))))))).bind fun t416 => (stratumlaw12_SpansNodes.l0 k (Int.tmod (wrap64 (a1_0)) 200) t410 t413 t416 0 t405 t406)) = some r := H
      have A8 := iC.mk A80
      clear A80
      replace H := Option.bind_eq_some_iff.mp H
      obtain ⟨t416, A90, H⟩ := H
      replace H : (stratumlaw12_SpansNodes.l0 k (Int.tmod (wrap64 (a1_0)) 200) t410 t413 t416 0 t405 t406) = some r := H
      have A9 := iC.mk A90
      clear A90
      have H' := iC.mk H
      clear H
      go_enter Try.func7, Try.ntmps7
      go_wp2_with (first | ((with_reducible refine jE (N := 4) rfl ?_); (try (refine jA (by rfl) ?_; dsimp only)); refine jC ?hg (N := 4) ?hd (cs := #[.int .u16 a1_0, .int .u16 a1_1, .int .u8 a1_2]) (t := 55) ?hr ?_; (case hd => rfl); (case hg => rfl); (case hr => first | (go_simp; done) | (go_simp; rfl)); intro gb404 hg w10 hbox hb; have n0_ := iC.mk (iK hb_ hb); have n1_ := iC.mk (hbox); have n2_ := iC.mk ((by rw [hg]; exact (iJ hb_) : w.heap.size ≤ gb404)); have n3_ := iC.mk ((by rw [hg]; exact (iJ hb_) : w.heap.size ≤ gb404)); clear HB; have HB := n0_; have BK404 := n1_; have GW404 := n2_; have GE404 := n3_; clear n0_ n1_ n2_ n3_; clear hb hbox hg) | ((with_reducible refine iW (f := 24) rfl ?_); refine jH (some 17) rfl rfl Try.func24 (by kernel_rfl) rfl #[.int .i64 200, .int .i64 4, .slice A0 l0.length c0] rfl (by (try simp only [List.map_toArray, List.map_cons, List.map_nil]); first | done | rfl | (simp only [List.length_drop, List.length_take]; rfl)) ?_; (with_reducible refine (stratumlaw12_Of.calls k 200 4 _ _ l0 t405 t406 _ ?side1 ?side2 A4.out).mono ?_); (case side1 => repeat (first | exact (Kd.C_below HR0.out HB.out) | (with_reducible refine Kd.C_alloc ?_ _) | (with_reducible refine Kd.C_drewN ?_ _) | (with_reducible refine Kd.C_drew ?_))); (case side2 => exact HC0.out); rintro e w11 ⟨v407, rfl, ho0, hb⟩; refine ⟨_, rfl, ?_⟩; have n0_ := iC.mk (Kd.R_lower ho0 (iJ (by repeat (first | (with_reducible first | exact HB.out | apply iF | apply iD | apply iG | refine iE ?_ GE404.out) | exact HB.out)))); have n1_ := iC.mk (iP (g := gb404) (o := .cells #[.int .u16 a1_0, .int .u16 a1_1, .int .u8 a1_2] 55 (0, 0)) (bk_ BK404.out) hb); have n2_ := iC.mk (iK (by repeat (first | (with_reducible first | exact HB.out | apply iF | apply iD | apply iG | refine iE ?_ GE404.out) | exact HB.out)) hb); clear BK404; clear HB; have HO408 := n0_; have BK404 := n1_; have HB := n2_; clear n0_ n1_ n2_; (try clear hb); (try clear hb2); (try clear hk); (try clear hi); (try clear ho0)) | ((with_reducible refine jE (N := 7) rfl ?_); (try (refine jA (by rfl) ?_; dsimp only)); refine jC ?hg (N := 7) ?hd (cs := #[.int .u32 0, .slice none 0 0]) (t := 42) ?hr ?_; (case hd => rfl); (case hg => rfl); (case hr => first | (go_simp; done) | (go_simp; rfl)); intro gb409 hg w12 hbox hb; have n0_ := iC.mk (Kd.R_below (by (with_reducible repeat (first | apply Kd.R_alloc | apply Kd.R_drewN | apply Kd.R_drew)); exact HO408.out) hb); have n1_ := iC.mk (iP (g := gb404) (o := .cells #[.int .u16 a1_0, .int .u16 a1_1, .int .u8 a1_2] 55 (0, 0)) (bk_ BK404.out) hb); have n2_ := iC.mk (iK (by repeat (first | (with_reducible first | exact HB.out | apply iF | apply iD | apply iG | refine iE ?_ GE404.out) | exact HB.out)) hb); have n3_ := iC.mk (hbox); have n4_ := iC.mk ((by rw [hg]; exact (iJ (by repeat (first | (with_reducible first | exact HB.out | apply iF | apply iD | apply iG | refine iE ?_ GE404.out) | exact HB.out))) : w.heap.size ≤ gb409)); have n5_ := iC.mk ((by rw [hg]; exact (iJ (by repeat (first | (with_reducible first | exact HB.out | apply iF | apply iD | apply iG | refine iE ?_ GE404.out) | exact HB.out))) : w.heap.size ≤ gb409)); have n6_ := iC.mk ((by rw [hg]; exact Nat.ne_of_lt (jF (g := gb404) (o := .cells #[.int .u16 a1_0, .int .u16 a1_1, .int .u8 a1_2] 55 (0, 0)) (bk_ BK404.out)) : gb404 ≠ gb409)); have n7_ := iC.mk ((by rw [hg]; exact Nat.ne_of_gt (jF (g := gb404) (o := .cells #[.int .u16 a1_0, .int .u16 a1_1, .int .u8 a1_2] 55 (0, 0)) (bk_ BK404.out)) : gb409 ≠ gb404)); clear HO408; clear BK404; clear HB; have HO408 := n0_; have BK404 := n1_; have HB := n2_; have BK409 := n3_; have GW409 := n4_; have GE409 := n5_; have NB404_409 := n6_; have NB409_404 := n7_; clear n0_ n1_ n2_ n3_ n4_ n5_ n6_ n7_; clear hb hbox hg; have hnb13 := NB409_404.out; have hnc13 := NB404_409.out; have hcz14_0 : w12.cell? ⟨gb409, 0, none⟩ = some (.int .u32 0) := (iI BK409.out 0).trans rfl; have hcz14_1 : w12.cell? ⟨gb409, 1, none⟩ = some (.slice none 0 0) := (iI BK409.out 1).trans rfl; have hfz14_0 := iH BK409.out 0; have hfz14_1 := iH BK409.out 1; obtain ⟨Ao15, co15, eo15⟩ := Kd.R_slice HO408.out; subst eo15; have hcz16_0 : w12.cell? ⟨gb404, 0, none⟩ = some (.int .u16 a1_0) := (iI BK404.out 0).trans rfl; have hcz16_1 : w12.cell? ⟨gb404, 1, none⟩ = some (.int .u16 a1_1) := (iI BK404.out 1).trans rfl; have hcz16_2 : w12.cell? ⟨gb404, 2, none⟩ = some (.int .u8 a1_2) := (iI BK404.out 2).trans rfl; have hfz16_0 := iH BK404.out 0; have hfz16_1 := iH BK404.out 1; have hfz16_2 := iH BK404.out 2) | ((with_reducible refine iW (f := 28) rfl ?_); refine jH (some 43) rfl rfl Try.func28 (by kernel_rfl) rfl #[.agg #[.int .u32 t405, .slice Ao15 t406.length co15], .int .i64 (Int.tmod (wrap64 (a1_0)) 200), .int .i64 (wrap64 ((wrap64 ((Int.tmod (wrap64 (a1_0)) 200) + 1)) + (Int.tmod (wrap64 (a1_1)) (wrap64 (200 - (Int.tmod (wrap64 (a1_0)) 200))))))] rfl (by (try simp only [List.map_toArray, List.map_cons, List.map_nil]); first | done | rfl | (simp only [List.length_drop, List.length_take]; rfl)) ?_; (with_reducible refine (spans_Nodes.calls t405 _ _ t406 (Int.tmod (wrap64 (a1_0)) 200) (wrap64 ((wrap64 ((Int.tmod (wrap64 (a1_0)) 200) + 1)) + (Int.tmod (wrap64 (a1_1)) (wrap64 (200 - (Int.tmod (wrap64 (a1_0)) 200)))))) t410 _ ?side1 ?side2 A7.out).mono ?_); (case side1 => refine (Kd.R_reads' (e := 60) (base := w.heap.size) (ok := fun k_ => True) (n := t406.length) (c := co15) ?_).2.2; exact (by (with_reducible repeat (first | apply Kd.R_alloc | apply Kd.R_drewN | apply Kd.R_drew)); exact (Kd.R_mono (Kd.R_far (p := ⟨gb409, 1, none⟩) (Kd.R_far (p := ⟨gb409, 0, none⟩) (Kd.R_types HO408.out BK409.out (by decide)) (fun _ hk => hk.2) (.int .u32 t405)) (fun _ hk => hk.2) (.slice Ao15 t406.length co15)) (fun _ h_ => h_.1)))); (case side2 => exact (Kd.R_reads' HO408.out).2.1); rintro e w17 ⟨v411, rfl, ho0, hb⟩; refine ⟨_, rfl, ?_⟩; have n0_ := iC.mk (Kd.R_below (by (with_reducible repeat (first | apply Kd.R_alloc | apply Kd.R_drewN | apply Kd.R_drew)); exact (Kd.R_mono (Kd.R_far (p := ⟨gb409, 1, none⟩) (Kd.R_far (p := ⟨gb409, 0, none⟩) (Kd.R_types HO408.out BK409.out (by decide)) (fun _ hk => hk.2) (.int .u32 t405)) (fun _ hk => hk.2) (.slice Ao15 t406.length co15)) (fun _ h_ => h_.1))) hb); have n1_ := iC.mk (Kd.R_lower ho0 (iJ (by repeat (first | (with_reducible first | exact HB.out | apply iF | apply iD | apply iG | refine iE ?_ GE404.out | refine iE ?_ GE409.out) | exact HB.out)))); have n2_ := iC.mk (iP (g := gb404) (o := .cells #[.int .u16 a1_0, .int .u16 a1_1, .int .u8 a1_2] 55 (0, 0)) (by (with_reducible repeat (first | refine iM ?_ _ | refine iO ?_ | refine iL ?_ _)); refine jJ ?_ NB404_409.out _; (with_reducible repeat (first | refine iM ?_ _ | refine iO ?_ | refine iL ?_ _)); refine jJ ?_ NB404_409.out _; (with_reducible repeat (first | refine iM ?_ _ | refine iO ?_ | refine iL ?_ _)); exact BK404.out) hb); have n3_ := iC.mk (iP (g := gb409) (o := .cells #[.int .u32 t405, .slice Ao15 t406.length co15] 42 (0, 0)) (by (with_reducible repeat (first | refine iM ?_ _ | refine iO ?_ | refine iL ?_ _)); refine jD (cs := #[.int .u32 t405, .slice none 0 0]) ?_ 1 _ rfl; (with_reducible repeat (first | refine iM ?_ _ | refine iO ?_ | refine iL ?_ _)); refine jD (cs := #[.int .u32 0, .slice none 0 0]) ?_ 0 _ rfl; (with_reducible repeat (first | refine iM ?_ _ | refine iO ?_ | refine iL ?_ _)); exact BK409.out) hb); have n4_ := iC.mk (iK (by repeat (first | (with_reducible first | exact HB.out | apply iF | apply iD | apply iG | refine iE ?_ GE404.out | refine iE ?_ GE409.out) | exact HB.out)) hb); clear HO408; clear BK404; clear BK409; clear HB; have HO408 := n0_; have HO412 := n1_; have BK404 := n2_; have BK409 := n3_; have HB := n4_; clear n0_ n1_ n2_ n3_ n4_; (try clear hb); (try clear hb2); (try clear hk); (try clear hi); (try clear ho0); have hcz18_0 : w17.cell? ⟨gb409, 0, none⟩ = some (.int .u32 t405) := (iI BK409.out 0).trans rfl; have hcz18_1 : w17.cell? ⟨gb409, 1, none⟩ = some (.slice Ao15 t406.length co15) := (iI BK409.out 1).trans rfl; have hfz18_0 := iH BK409.out 0; have hfz18_1 := iH BK409.out 1) | ((with_reducible refine iW (f := 28) rfl ?_); refine jH (some 47) rfl rfl Try.func28 (by kernel_rfl) rfl #[.agg #[.int .u32 t405, .slice Ao15 t406.length co15], .int .i64 (Int.tmod (wrap64 (a1_0)) 200), .int .i64 (wrap64 ((Int.tmod (wrap64 (a1_0)) 200) + (Int.tmod (wrap64 (a2)) (wrap64 ((wrap64 ((wrap64 ((wrap64 ((Int.tmod (wrap64 (a1_0)) 200) + 1)) + (Int.tmod (wrap64 (a1_1)) (wrap64 (200 - (Int.tmod (wrap64 (a1_0)) 200)))))) - (Int.tmod (wrap64 (a1_0)) 200))) + 1)))))] rfl (by (try simp only [List.map_toArray, List.map_cons, List.map_nil]); first | done | rfl | (simp only [List.length_drop, List.length_take]; rfl)) ?_; (with_reducible refine (spans_Nodes.calls t405 _ _ t406 (Int.tmod (wrap64 (a1_0)) 200) (wrap64 ((Int.tmod (wrap64 (a1_0)) 200) + (Int.tmod (wrap64 (a2)) (wrap64 ((wrap64 ((wrap64 ((wrap64 ((Int.tmod (wrap64 (a1_0)) 200) + 1)) + (Int.tmod (wrap64 (a1_1)) (wrap64 (200 - (Int.tmod (wrap64 (a1_0)) 200)))))) - (Int.tmod (wrap64 (a1_0)) 200))) + 1))))) t413 _ ?side1 ?side2 A8.out).mono ?_); (case side1 => repeat (first | exact (Kd.R_reads' HO408.out).2.2 | (with_reducible refine Kd.C_alloc ?_ _) | (with_reducible refine Kd.C_drewN ?_ _) | (with_reducible refine Kd.C_drew ?_))); (case side2 => exact (Kd.R_reads' HO408.out).2.1); rintro e w19 ⟨v414, rfl, ho0, hb⟩; refine ⟨_, rfl, ?_⟩; have n0_ := iC.mk (Kd.R_below (by (with_reducible repeat (first | apply Kd.R_alloc | apply Kd.R_drewN | apply Kd.R_drew)); exact HO408.out) hb); have n1_ := iC.mk (Kd.R_elder' (by (with_reducible repeat (first | apply Kd.R_alloc | apply Kd.R_drewN | apply Kd.R_drew)); exact HO412.out) (Kd.R_base ho0) hb); have n2_ := iC.mk (Kd.R_lower (Kd.R_new' ho0 (Kd.R_lt (by (with_reducible repeat (first | apply Kd.R_alloc | apply Kd.R_drewN | apply Kd.R_drew)); exact HO412.out))) (iJ (by repeat (first | (with_reducible first | exact HB.out | apply iF | apply iD | apply iG | refine iE ?_ GE404.out | refine iE ?_ GE409.out) | exact HB.out)))); have n3_ := iC.mk (iP (g := gb404) (o := .cells #[.int .u16 a1_0, .int .u16 a1_1, .int .u8 a1_2] 55 (0, 0)) (bk_ BK404.out) hb); have n4_ := iC.mk (iP (g := gb409) (o := .cells #[.int .u32 t405, .slice Ao15 t406.length co15] 42 (0, 0)) (bk_ BK409.out) hb); have n5_ := iC.mk (iK (by repeat (first | (with_reducible first | exact HB.out | apply iF | apply iD | apply iG | refine iE ?_ GE404.out | refine iE ?_ GE409.out) | exact HB.out)) hb); clear HO408; clear HO412; clear BK404; clear BK409; clear HB; have HO408 := n0_; have HO412 := n1_; have HO415 := n2_; have BK404 := n3_; have BK409 := n4_; have HB := n5_; clear n0_ n1_ n2_ n3_ n4_ n5_; (try clear hb); (try clear hb2); (try clear hk); (try clear hi); (try clear ho0); have hcz20_0 : w19.cell? ⟨gb409, 0, none⟩ = some (.int .u32 t405) := (iI BK409.out 0).trans rfl; have hcz20_1 : w19.cell? ⟨gb409, 1, none⟩ = some (.slice Ao15 t406.length co15) := (iI BK409.out 1).trans rfl; have hfz20_0 := iH BK409.out 0; have hfz20_1 := iH BK409.out 1) | ((with_reducible refine iW (f := 28) rfl ?_); refine jH (some 51) rfl rfl Try.func28 (by kernel_rfl) rfl #[.agg #[.int .u32 t405, .slice Ao15 t406.length co15], .int .i64 (wrap64 ((Int.tmod (wrap64 (a1_0)) 200) + (Int.tmod (wrap64 (a2)) (wrap64 ((wrap64 ((wrap64 ((wrap64 ((Int.tmod (wrap64 (a1_0)) 200) + 1)) + (Int.tmod (wrap64 (a1_1)) (wrap64 (200 - (Int.tmod (wrap64 (a1_0)) 200)))))) - (Int.tmod (wrap64 (a1_0)) 200))) + 1))))), .int .i64 (wrap64 ((wrap64 ((Int.tmod (wrap64 (a1_0)) 200) + 1)) + (Int.tmod (wrap64 (a1_1)) (wrap64 (200 - (Int.tmod (wrap64 (a1_0)) 200))))))] rfl (by (try simp only [List.map_toArray, List.map_cons, List.map_nil]); first | done | rfl | (simp only [List.length_drop, List.length_take]; rfl)) ?_; (with_reducible refine (spans_Nodes.calls t405 _ _ t406 (wrap64 ((Int.tmod (wrap64 (a1_0)) 200) + (Int.tmod (wrap64 (a2)) (wrap64 ((wrap64 ((wrap64 ((wrap64 ((Int.tmod (wrap64 (a1_0)) 200) + 1)) + (Int.tmod (wrap64 (a1_1)) (wrap64 (200 - (Int.tmod (wrap64 (a1_0)) 200)))))) - (Int.tmod (wrap64 (a1_0)) 200))) + 1))))) (wrap64 ((wrap64 ((Int.tmod (wrap64 (a1_0)) 200) + 1)) + (Int.tmod (wrap64 (a1_1)) (wrap64 (200 - (Int.tmod (wrap64 (a1_0)) 200)))))) t416 _ ?side1 ?side2 A9.out).mono ?_); (case side1 => repeat (first | exact (Kd.R_reads' HO408.out).2.2 | (with_reducible refine Kd.C_alloc ?_ _) | (with_reducible refine Kd.C_drewN ?_ _) | (with_reducible refine Kd.C_drew ?_))); (case side2 => exact (Kd.R_reads' HO408.out).2.1); rintro e w21 ⟨v417, rfl, ho0, hb⟩; refine ⟨_, rfl, ?_⟩; have n0_ := iC.mk (Kd.R_below (by (with_reducible repeat (first | apply Kd.R_alloc | apply Kd.R_drewN | apply Kd.R_drew)); exact HO408.out) hb); have n1_ := iC.mk (Kd.R_elder' (by (with_reducible repeat (first | apply Kd.R_alloc | apply Kd.R_drewN | apply Kd.R_drew)); exact HO412.out) (Kd.R_base ho0) hb); have n2_ := iC.mk (Kd.R_elder' (by (with_reducible repeat (first | apply Kd.R_alloc | apply Kd.R_drewN | apply Kd.R_drew)); exact HO415.out) (Kd.R_base ho0) hb); have n3_ := iC.mk (Kd.R_lower (Kd.R_new' (Kd.R_new' ho0 (Kd.R_lt (by (with_reducible repeat (first | apply Kd.R_alloc | apply Kd.R_drewN | apply Kd.R_drew)); exact HO412.out))) (Kd.R_lt (by (with_reducible repeat (first | apply Kd.R_alloc | apply Kd.R_drewN | apply Kd.R_drew)); exact HO415.out))) (iJ (by repeat (first | (with_reducible first | exact HB.out | apply iF | apply iD | apply iG | refine iE ?_ GE404.out | refine iE ?_ GE409.out) | exact HB.out)))); have n4_ := iC.mk (iP (g := gb404) (o := .cells #[.int .u16 a1_0, .int .u16 a1_1, .int .u8 a1_2] 55 (0, 0)) (bk_ BK404.out) hb); have n5_ := iC.mk (iP (g := gb409) (o := .cells #[.int .u32 t405, .slice Ao15 t406.length co15] 42 (0, 0)) (bk_ BK409.out) hb); have n6_ := iC.mk (iK (by repeat (first | (with_reducible first | exact HB.out | apply iF | apply iD | apply iG | refine iE ?_ GE404.out | refine iE ?_ GE409.out) | exact HB.out)) hb); clear HO408; clear HO412; clear HO415; clear BK404; clear BK409; clear HB; have HO408 := n0_; have HO412 := n1_; have HO415 := n2_; have HO418 := n3_; have BK404 := n4_; have BK409 := n5_; have HB := n6_; clear n0_ n1_ n2_ n3_ n4_ n5_ n6_; (try clear hb); (try clear hb2); (try clear hk); (try clear hi); (try clear ho0)))
      go_loopg [14] k (fun kq v14 w' => ∃ (x14_1 : Int), v14 = .int .i64 x14_1 ∧ iC (stratumlaw12_SpansNodes.l0 kq (Int.tmod (wrap64 (a1_0)) 200) t410 t413 t416 x14_1 t405 t406 = some r) ∧ iC (kq ≤ k) ∧ iC (Kd.R (Kd.int .i64) 3 w' w.heap.size (fun k_ => some k_ ≠ (v414 : Value).ownBlock ∧ some k_ ≠ (v417 : Value).ownBlock) v411 t410) ∧ iC (Kd.R (Kd.int .i64) 3 w' w.heap.size (fun k_ => some k_ ≠ (v411 : Value).ownBlock ∧ some k_ ≠ (v417 : Value).ownBlock) v414 t413) ∧ iC (Kd.R (Kd.int .i64) 3 w' w.heap.size (fun k_ => some k_ ≠ (v411 : Value).ownBlock ∧ some k_ ≠ (v414 : Value).ownBlock) v417 t416) ∧ iC (Kd.R k60 60 w' w.heap.size (fun _ => True) (.slice Ao15 t406.length co15) t406) ∧ iC (w'.heap[gb404]? = some (.cells #[.int .u16 a1_0, .int .u16 a1_1, .int .u8 a1_2] 55 (0, 0))) ∧ iC (w'.heap[gb409]? = some (.cells #[.int .u32 t405, (.slice Ao15 t406.length co15)] 42 (0, 0))) ∧ iC (Below w.heap.size w w'))
      case atStart => exact ⟨(0), (by first | rfl | (simp; done) | (simp [*]; done)), H', ⟨Nat.le_refl _⟩, ⟨by (with_reducible repeat (first | apply Kd.R_alloc | apply Kd.R_drewN | apply Kd.R_drew)); exact Kd.R_mono HO412.out (fun _ hk => ⟨hk.1.2, hk.2⟩)⟩, ⟨by (with_reducible repeat (first | apply Kd.R_alloc | apply Kd.R_drewN | apply Kd.R_drew)); exact Kd.R_mono HO415.out (fun _ hk => ⟨hk.1.2, hk.2⟩)⟩, ⟨by (with_reducible repeat (first | apply Kd.R_alloc | apply Kd.R_drewN | apply Kd.R_drew)); exact Kd.R_mono HO418.out (fun _ hk => ⟨hk.1.2, hk.2⟩)⟩, ⟨by (with_reducible repeat (first | apply Kd.R_alloc | apply Kd.R_drewN | apply Kd.R_drew)); exact HO408.out⟩, ⟨bk_ BK404.out⟩, ⟨bk_ BK409.out⟩, ⟨by repeat (first | (with_reducible first | exact HB.out | apply iF | apply iD | apply iG | refine iE ?_ GE404.out | refine iE ?_ GE409.out) | exact HB.out)⟩⟩
      case round =>
        clear H'
        try clear c1
        try clear c2
        try clear p2
        try clear c5
        try clear c5b0
        try clear c5b1
        try clear c6
        try clear c6b0
        try clear c6b1
        try clear p6
        try clear c7
        try clear c13
        try clear hcz14_0
        try clear hcz14_1
        try clear hcz16_0
        try clear hcz16_1
        try clear hcz16_2
        try clear hcz18_0
        try clear hcz18_1
        try clear hcz20_0
        try clear hcz20_1
        try clear hfz14_0
        try clear hfz14_1
        try clear hfz16_0
        try clear hfz16_1
        try clear hfz16_2
        try clear hfz18_0
        try clear hfz18_1
        try clear hfz20_0
        try clear hfz20_1
        obtain ⟨x14_1, rfl, HA, HK1, HO_11, HO_12, HO_13, HO_410001, BK404, BK409, HB⟩ := hrel
        cases gk with
        | zero => exact absurd HA.out (by simp [stratumlaw12_SpansNodes.l0])
        | succ k1 =>
          have H := HA.out
          clear HA
          simp only [stratumlaw12_SpansNodes.l0] at H
          by_cases c22 : x14_1 < (t410.length : Int)
          · rw [if_pos c22] at H
            have c22b0 : decide (x14_1 < (t410.length : Int)) = true := decide_eq_true c22
            clear c22
            by_cases c23 : x14_1 > 0
            · rw [if_pos c23] at H
              have c23b0 : decide (0 < x14_1) = true := decide_eq_true c23
              clear c23
              by_cases c24 : 0 ≤ x14_1
              · rw [if_pos c24] at H
                have c24b0 : decide (0 ≤ x14_1) = true := decide_eq_true c24
                clear c24
                obtain ⟨ji25, hji25⟩ : ∃ j_ : Int, (wrap64 (x14_1 - 1)) = j_ := ⟨_, rfl⟩
                replace H : (if 0 ≤ (ji25) then (if (ji25) < (t410.length : Int) then (if (rd t410 x14_1) ≤ (rd t410 (ji25)) then (some false) else ((stratumlaw12_has.f k1 t413 (rd t410 x14_1)).bind fun t422 => (if t422 = true then (stratumlaw12_SpansNodes.l0 k1 (Int.tmod (wrap64 (a1_0)) 200) t410 t413 t416 (wrap64 (x14_1 + 1)) t405 t406) else ((stratumlaw12_has.f k1 t416 (rd t410 x14_1)).bind fun t424 => (if t424 = true then (stratumlaw12_SpansNodes.l0 k1 (Int.tmod (wrap64 (a1_0)) 200) t410 t413 t416 (wrap64 (x14_1 + 1)) t405 t406) else (some false)))))) else (none)) else (none)) = some r := by first | (rw [hji25] at H; exact H) | (simp only [hji25] at H ⊢; exact H)
                have hji25w : (IntKind.i64.wrap (x14_1 - 1)) = ji25 := (iR _).trans hji25
                by_cases c26 : 0 ≤ (ji25)
                · rw [if_pos c26] at H
                  have c26b0 : decide (0 ≤ (ji25)) = true := decide_eq_true c26
                  clear c26
                  by_cases c27 : (ji25) < (t410.length : Int)
                  · rw [if_pos c27] at H
                    have c27b0 : decide ((ji25) < (t410.length : Int)) = true := decide_eq_true c27
                    clear c27
                    by_cases c28 : (rd t410 x14_1) ≤ (rd t410 (ji25))
                    · rw [if_pos c28] at H
                      have c28b0 : decide ((rd t410 x14_1) ≤ (rd t410 (ji25))) = true := decide_eq_true c28
                      clear c28
                      obtain rfl := Option.some.inj H
                      obtain ⟨Ao29, co29, eo29⟩ := Kd.R_slice HO_11.out
                      subst eo29
                      try go_wp2
                      have n0_ := iC.mk (Kd.R_drew HO_11.out)
                      have n1_ := iC.mk (Kd.R_drew HO_12.out)
                      have n2_ := iC.mk (Kd.R_drew HO_13.out)
                      have n3_ := iC.mk (Kd.R_drew HO_410001.out)
                      have n4_ := iC.mk (iO BK404.out)
                      have n5_ := iC.mk (iO BK409.out)
                      have n6_ := iC.mk (iG HB.out)
                      clear HO_11
                      clear HO_12
                      clear HO_13
                      clear HO_410001
                      clear BK404
                      clear BK409
                      clear HB
                      have HO_11 := n0_
                      have HO_12 := n1_
                      have HO_13 := n2_
                      have HO_410001 := n3_
                      have BK404 := n4_
                      have BK409 := n5_
                      have HB := n6_
                      clear n0_ n1_ n2_ n3_ n4_ n5_ n6_
                      have p419 : 0 ≤ (x14_1 : Int) := of_decide_eq_true asm_
                      have q419 : x14_1 < (t410.length : Int) := of_decide_eq_true asm_
                      obtain ⟨ad419, e419, hx419_0⟩ := Kd.at_int (Kd.R_reads' HO_11.out).2.2 x14_1 p419 q419
                      cases e419
                      replace p419 := eq_true p419
                      replace q419 := eq_true q419
                      have p420 : 0 ≤ ((ji25) : Int) := of_decide_eq_true asm_
                      have q420 : (ji25) < (t410.length : Int) := of_decide_eq_true asm_
                      obtain ⟨ad420, e420, hx420_0⟩ := Kd.at_int (Kd.R_reads' HO_11.out).2.2 (ji25) p420 q420
                      obtain rfl : ad419 = ad420 := (by injection e420)
                      replace p420 := eq_true p420
                      replace q420 := eq_true q420
                      refine kU (n := 32) (S := fun w' => w'.cell? (ad419.add (x14_1).toNat) = some (.int .i64 (rd t410 x14_1)) ∧ w'.cell? (ad419.add ((ji25)).toNat) = some (.int .i64 (rd t410 (ji25)))) (ds := []) #[false, false, false, false, false, false, false, false, false, false, false, false, false, false, false, false, false, false, false, false, false, false, false, false, false, false, false, false, false, false, false, false] (by kernel_rfl) rfl rfl ⟨hx419_0, hx420_0⟩ (fun hHeld => ?_); refine jW stratumlaw12_SpansNodes.tab11 stratumlaw12_SpansNodes.bits11 (fun HT_ HW_ => ?_)
                      generalize wr.drew = w30 at HO_11 HO_12 HO_13 HO_410001 BK404 BK409 HB hx419_0 hx420_0 hHeld ⊢
                      refine iZ (i := 0) (N := some 58) (v := ?_) (a' := ?_) #[true, false, false, false, false, false, false, false, false, false, false, false, false, false, false, false, false, false, false, false, false, false, false, false, false, false, false, false, false, false, false, false] rfl rfl (iQ HT_.out (by kernel_rfl)) (fun _ _ _ h => h) (Or.inl ⟨by rfl, ?_⟩) ?_ ?_
                      rotate_left
                      · intro w'
                        go_simp
                        with_reducible rfl
                      rotate_left
                      · simp only [Act.put, List.setIfInBounds_toArray, List.set_cons_zero, List.set_cons_succ, iR, iT]
                        rfl
                      refine iZ (i := 1) (N := some 59) (v := ?_) (a' := ?_) #[true, true, false, false, false, false, false, false, false, false, false, false, false, false, false, false, false, false, false, false, false, false, false, false, false, false, false, false, false, false, false, false] rfl rfl (iQ HT_.out (by kernel_rfl)) (fun _ _ _ h => h) (Or.inl ⟨by rfl, ?_⟩) ?_ ?_
                      rotate_left
                      · intro w'
                        go_simp
                        with_reducible rfl
                      rotate_left
                      · simp only [Act.put, List.setIfInBounds_toArray, List.set_cons_zero, List.set_cons_succ, iR, iT]
                        rfl
                      refine iZ (i := 2) (N := some 60) (v := ?_) (a' := ?_) #[true, true, true, false, false, false, false, false, false, false, false, false, false, false, false, false, false, false, false, false, false, false, false, false, false, false, false, false, false, false, false, false] rfl rfl (iQ HT_.out (by kernel_rfl)) (fun _ _ _ h => h) (Or.inl ⟨by rfl, ?_⟩) ?_ ?_
                      rotate_left
                      · intro w'
                        go_simp
                        with_reducible rfl
                      rotate_left
                      · simp only [Act.put, List.setIfInBounds_toArray, List.set_cons_zero, List.set_cons_succ, iR, iT]
                        rfl
                      refine iZ (i := 3) (N := some 61) (v := ?_) (a' := ?_) #[true, true, true, true, false, false, false, false, false, false, false, false, false, false, false, false, false, false, false, false, false, false, false, false, false, false, false, false, false, false, false, false] rfl rfl (iQ HT_.out (by kernel_rfl)) (fun _ _ _ h => h) (Or.inl ⟨by rfl, ?_⟩) ?_ ?_
                      rotate_left
                      · intro w'
                        go_simp
                        with_reducible rfl
                      rotate_left
                      · simp only [Act.put, List.setIfInBounds_toArray, List.set_cons_zero, List.set_cons_succ, iR, iT]
                        rfl
                      refine iZ (i := 4) (N := some 62) (v := ?_) (a' := ?_) #[true, true, true, true, true, false, false, false, false, false, false, false, false, false, false, false, false, false, false, false, false, false, false, false, false, false, false, false, false, false, false, false] rfl rfl (iQ HT_.out (by kernel_rfl)) (fun _ _ _ h => h) (Or.inl ⟨by rfl, ?_⟩) ?_ ?_
                      rotate_left
                      · intro w'
                        go_simp
                        with_reducible rfl
                      rotate_left
                      · simp only [Act.put, List.setIfInBounds_toArray, List.set_cons_zero, List.set_cons_succ, iR, iT]
                        rfl
                      refine iZ (i := 5) (N := some 63) (v := ?_) (a' := ?_) #[true, true, true, true, true, true, false, false, false, false, false, false, false, false, false, false, false, false, false, false, false, false, false, false, false, false, false, false, false, false, false, false] rfl rfl (iQ HT_.out (by kernel_rfl)) (fun _ _ _ h => h) (Or.inl ⟨by rfl, ?_⟩) ?_ ?_
                      rotate_left
                      · intro w'
                        go_simp
                        with_reducible rfl
                      rotate_left
                      · simp only [Act.put, List.setIfInBounds_toArray, List.set_cons_zero, List.set_cons_succ, iR, iT]
                        rfl
                      refine iZ (i := 7) (N := some 65) (v := ?_) (a' := ?_) #[true, true, true, true, true, true, false, true, false, false, false, false, false, false, false, false, false, false, false, false, false, false, false, false, false, false, false, false, false, false, false, false] rfl rfl (iQ HT_.out (by kernel_rfl)) (fun _ _ _ h => h) (Or.inl ⟨by rfl, ?_⟩) ?_ ?_
                      rotate_left
                      · intro w'
                        go_simp
                        with_reducible rfl
                      rotate_left
                      · simp only [Act.put, List.setIfInBounds_toArray, List.set_cons_zero, List.set_cons_succ, iR, iT]
                        rfl
                      refine iZ (i := 8) (N := some 66) (v := ?_) (a' := ?_) #[true, true, true, true, true, true, false, true, true, false, false, false, false, false, false, false, false, false, false, false, false, false, false, false, false, false, false, false, false, false, false, false] rfl rfl (iQ HT_.out (by kernel_rfl)) (fun _ _ _ h => h) (Or.inl ⟨by rfl, ?_⟩) ?_ ?_
                      rotate_left
                      · intro w'
                        go_simp
                        with_reducible rfl
                      rotate_left
                      · simp only [Act.put, List.setIfInBounds_toArray, List.set_cons_zero, List.set_cons_succ, iR, iT]
                        rfl
                      refine iZ (i := 9) (N := some 67) (v := ?_) (a' := ?_) #[true, true, true, true, true, true, false, true, true, true, false, false, false, false, false, false, false, false, false, false, false, false, false, false, false, false, false, false, false, false, false, false] rfl rfl (iQ HT_.out (by kernel_rfl)) (fun _ _ _ h => h) (Or.inl ⟨by rfl, ?_⟩) ?_ ?_
                      rotate_left
                      · intro w'
                        go_simp
                        with_reducible rfl
                      rotate_left
                      · simp only [Act.put, List.setIfInBounds_toArray, List.set_cons_zero, List.set_cons_succ, iR, iT]
                        rfl
                      refine iZ (i := 10) (N := some 68) (v := ?_) (a' := ?_) #[true, true, true, true, true, true, false, true, true, true, true, false, false, false, false, false, false, false, false, false, false, false, false, false, false, false, false, false, false, false, false, false] rfl rfl (iQ HT_.out (by kernel_rfl)) (fun _ _ _ h => h) (Or.inl ⟨by rfl, ?_⟩) ?_ ?_
                      rotate_left
                      · intro w'
                        go_simp
                        with_reducible rfl
                      rotate_left
                      · simp only [Act.put, List.setIfInBounds_toArray, List.set_cons_zero, List.set_cons_succ, iR, iT]
                        rfl
                      refine take_ (i := 6) (N := some 64) (v := ?_) (a' := ?_) #[true, true, true, true, true, true, true, true, true, true, true, false, false, false, false, false, false, false, false, false, false, false, false, false, false, false, false, false, false, false, false, false] rfl rfl (jL HT_.out HW_.out (by kernel_rfl)) (fun _ _ _ h => h) (Or.inl ⟨by rfl, ?_⟩) hHeld ?_ ?_
                      rotate_left
                      · rintro w' ⟨s0, s1⟩
                        go_simp
                        with_reducible rfl
                      rotate_left
                      · simp only [Act.put, List.setIfInBounds_toArray, List.set_cons_zero, List.set_cons_succ, iR, iT]
                        rfl
                      refine take_ (i := 11) (N := some 69) (v := ?_) (a' := ?_) #[true, true, true, true, true, true, true, true, true, true, true, true, false, false, false, false, false, false, false, false, false, false, false, false, false, false, false, false, false, false, false, false] rfl rfl (jL HT_.out HW_.out (by kernel_rfl)) (fun _ _ _ h => h) (Or.inl ⟨by rfl, ?_⟩) hHeld ?_ ?_
                      rotate_left
                      · rintro w' ⟨s0, s1⟩
                        go_simp
                        with_reducible rfl
                      rotate_left
                      · simp only [Act.put, List.setIfInBounds_toArray, List.set_cons_zero, List.set_cons_succ, iR, iT]
                        rfl
                      refine iZ (i := 12) (N := some 70) (v := ?_) (a' := ?_) #[true, true, true, true, true, true, true, true, true, true, true, true, true, false, false, false, false, false, false, false, false, false, false, false, false, false, false, false, false, false, false, false] rfl rfl (iQ HT_.out (by kernel_rfl)) (fun _ _ _ h => h) (Or.inl ⟨by rfl, ?_⟩) ?_ ?_
                      rotate_left
                      · intro w'
                        go_simp
                        with_reducible rfl
                      rotate_left
                      · simp only [Act.put, List.setIfInBounds_toArray, List.set_cons_zero, List.set_cons_succ, iR, iT]
                        rfl
                      refine iZ (i := 13) (N := some 71) (v := ?_) (a' := ?_) #[true, true, true, true, true, true, true, true, true, true, true, true, true, true, false, false, false, false, false, false, false, false, false, false, false, false, false, false, false, false, false, false] rfl rfl (iQ HT_.out (by kernel_rfl)) (fun _ _ _ h => h) (Or.inl ⟨by rfl, ?_⟩) ?_ ?_
                      rotate_left
                      · intro w'
                        go_simp
                        with_reducible rfl
                      rotate_left
                      · simp only [Act.put, List.setIfInBounds_toArray, List.set_cons_zero, List.set_cons_succ, iR, iT]
                        rfl
                      refine iZ (i := 14) (N := some 72) (v := ?_) (a' := ?_) #[true, true, true, true, true, true, true, true, true, true, true, true, true, true, true, false, false, false, false, false, false, false, false, false, false, false, false, false, false, false, false, false] rfl rfl (iQ HT_.out (by kernel_rfl)) (fun _ _ _ h => h) (Or.inl ⟨by rfl, ?_⟩) ?_ ?_
                      rotate_left
                      · intro w'
                        go_simp
                        with_reducible rfl
                      rotate_left
                      · simp only [Act.put, List.setIfInBounds_toArray, List.set_cons_zero, List.set_cons_succ, iR, iT]
                        rfl
                      refine iZ (i := 15) (N := some 73) (v := undef) (a' := ?_) #[true, true, true, true, true, true, true, true, true, true, true, true, true, true, true, true, false, false, false, false, false, false, false, false, false, false, false, false, false, false, false, false] rfl rfl (iQ HT_.out (by kernel_rfl)) (fun _ _ _ h => h) (Or.inr ⟨by rfl, rfl⟩) ?_ ?_
                      rotate_left
                      · simp only [Act.put, List.setIfInBounds_toArray, List.set_cons_zero, List.set_cons_succ, iR, iT]
                        rfl
                      refine iZ (i := 16) (N := some 74) (v := undef) (a' := ?_) #[true, true, true, true, true, true, true, true, true, true, true, true, true, true, true, true, true, false, false, false, false, false, false, false, false, false, false, false, false, false, false, false] rfl rfl (iQ HT_.out (by kernel_rfl)) (fun _ _ _ h => h) (Or.inr ⟨by rfl, rfl⟩) ?_ ?_
                      rotate_left
                      · simp only [Act.put, List.setIfInBounds_toArray, List.set_cons_zero, List.set_cons_succ, iR, iT]
                        rfl
                      refine iZ (i := 17) (N := some 75) (v := undef) (a' := ?_) #[true, true, true, true, true, true, true, true, true, true, true, true, true, true, true, true, true, true, false, false, false, false, false, false, false, false, false, false, false, false, false, false] rfl rfl (iQ HT_.out (by kernel_rfl)) (fun _ _ _ h => h) (Or.inr ⟨by rfl, rfl⟩) ?_ ?_
                      rotate_left
                      · simp only [Act.put, List.setIfInBounds_toArray, List.set_cons_zero, List.set_cons_succ, iR, iT]
                        rfl
                      refine iZ (i := 18) (N := some 76) (v := undef) (a' := ?_) #[true, true, true, true, true, true, true, true, true, true, true, true, true, true, true, true, true, true, true, false, false, false, false, false, false, false, false, false, false, false, false, false] rfl rfl (iQ HT_.out (by kernel_rfl)) (fun _ _ _ h => h) (Or.inr ⟨by rfl, rfl⟩) ?_ ?_
                      rotate_left
                      · simp only [Act.put, List.setIfInBounds_toArray, List.set_cons_zero, List.set_cons_succ, iR, iT]
                        rfl
                      refine iZ (i := 19) (N := some 77) (v := undef) (a' := ?_) #[true, true, true, true, true, true, true, true, true, true, true, true, true, true, true, true, true, true, true, true, false, false, false, false, false, false, false, false, false, false, false, false] rfl rfl (iQ HT_.out (by kernel_rfl)) (fun _ _ _ h => h) (Or.inr ⟨by rfl, rfl⟩) ?_ ?_
                      rotate_left
                      · simp only [Act.put, List.setIfInBounds_toArray, List.set_cons_zero, List.set_cons_succ, iR, iT]
                        rfl
                      refine iZ (i := 20) (N := some 78) (v := undef) (a' := ?_) #[true, true, true, true, true, true, true, true, true, true, true, true, true, true, true, true, true, true, true, true, true, false, false, false, false, false, false, false, false, false, false, false] rfl rfl (iQ HT_.out (by kernel_rfl)) (fun _ _ _ h => h) (Or.inr ⟨by rfl, rfl⟩) ?_ ?_
                      rotate_left
                      · simp only [Act.put, List.setIfInBounds_toArray, List.set_cons_zero, List.set_cons_succ, iR, iT]
                        rfl
                      refine iZ (i := 21) (N := some 79) (v := undef) (a' := ?_) #[true, true, true, true, true, true, true, true, true, true, true, true, true, true, true, true, true, true, true, true, true, true, false, false, false, false, false, false, false, false, false, false] rfl rfl (iQ HT_.out (by kernel_rfl)) (fun _ _ _ h => h) (Or.inr ⟨by rfl, rfl⟩) ?_ ?_
                      rotate_left
                      · simp only [Act.put, List.setIfInBounds_toArray, List.set_cons_zero, List.set_cons_succ, iR, iT]
                        rfl
                      refine iZ (i := 22) (N := some 80) (v := undef) (a' := ?_) #[true, true, true, true, true, true, true, true, true, true, true, true, true, true, true, true, true, true, true, true, true, true, true, false, false, false, false, false, false, false, false, false] rfl rfl (iQ HT_.out (by kernel_rfl)) (fun _ _ _ h => h) (Or.inr ⟨by rfl, rfl⟩) ?_ ?_
                      rotate_left
                      · simp only [Act.put, List.setIfInBounds_toArray, List.set_cons_zero, List.set_cons_succ, iR, iT]
                        rfl
                      refine iZ (i := 23) (N := some 81) (v := undef) (a' := ?_) #[true, true, true, true, true, true, true, true, true, true, true, true, true, true, true, true, true, true, true, true, true, true, true, true, false, false, false, false, false, false, false, false] rfl rfl (iQ HT_.out (by kernel_rfl)) (fun _ _ _ h => h) (Or.inr ⟨by rfl, rfl⟩) ?_ ?_
                      rotate_left
                      · simp only [Act.put, List.setIfInBounds_toArray, List.set_cons_zero, List.set_cons_succ, iR, iT]
                        rfl
                      refine iZ (i := 24) (N := some 82) (v := undef) (a' := ?_) #[true, true, true, true, true, true, true, true, true, true, true, true, true, true, true, true, true, true, true, true, true, true, true, true, true, false, false, false, false, false, false, false] rfl rfl (iQ HT_.out (by kernel_rfl)) (fun _ _ _ h => h) (Or.inr ⟨by rfl, rfl⟩) ?_ ?_
                      rotate_left
                      · simp only [Act.put, List.setIfInBounds_toArray, List.set_cons_zero, List.set_cons_succ, iR, iT]
                        rfl
                      refine iZ (i := 25) (N := some 83) (v := undef) (a' := ?_) #[true, true, true, true, true, true, true, true, true, true, true, true, true, true, true, true, true, true, true, true, true, true, true, true, true, true, false, false, false, false, false, false] rfl rfl (iQ HT_.out (by kernel_rfl)) (fun _ _ _ h => h) (Or.inr ⟨by rfl, rfl⟩) ?_ ?_
                      rotate_left
                      · simp only [Act.put, List.setIfInBounds_toArray, List.set_cons_zero, List.set_cons_succ, iR, iT]
                        rfl
                      refine iZ (i := 26) (N := some 84) (v := undef) (a' := ?_) #[true, true, true, true, true, true, true, true, true, true, true, true, true, true, true, true, true, true, true, true, true, true, true, true, true, true, true, false, false, false, false, false] rfl rfl (iQ HT_.out (by kernel_rfl)) (fun _ _ _ h => h) (Or.inr ⟨by rfl, rfl⟩) ?_ ?_
                      rotate_left
                      · simp only [Act.put, List.setIfInBounds_toArray, List.set_cons_zero, List.set_cons_succ, iR, iT]
                        rfl
                      refine iZ (i := 27) (N := some 85) (v := undef) (a' := ?_) #[true, true, true, true, true, true, true, true, true, true, true, true, true, true, true, true, true, true, true, true, true, true, true, true, true, true, true, true, false, false, false, false] rfl rfl (iQ HT_.out (by kernel_rfl)) (fun _ _ _ h => h) (Or.inr ⟨by rfl, rfl⟩) ?_ ?_
                      rotate_left
                      · simp only [Act.put, List.setIfInBounds_toArray, List.set_cons_zero, List.set_cons_succ, iR, iT]
                        rfl
                      refine iZ (i := 28) (N := some 86) (v := undef) (a' := ?_) #[true, true, true, true, true, true, true, true, true, true, true, true, true, true, true, true, true, true, true, true, true, true, true, true, true, true, true, true, true, false, false, false] rfl rfl (iQ HT_.out (by kernel_rfl)) (fun _ _ _ h => h) (Or.inr ⟨by rfl, rfl⟩) ?_ ?_
                      rotate_left
                      · simp only [Act.put, List.setIfInBounds_toArray, List.set_cons_zero, List.set_cons_succ, iR, iT]
                        rfl
                      refine iZ (i := 29) (N := some 87) (v := undef) (a' := ?_) #[true, true, true, true, true, true, true, true, true, true, true, true, true, true, true, true, true, true, true, true, true, true, true, true, true, true, true, true, true, true, false, false] rfl rfl (iQ HT_.out (by kernel_rfl)) (fun _ _ _ h => h) (Or.inr ⟨by rfl, rfl⟩) ?_ ?_
                      rotate_left
                      · simp only [Act.put, List.setIfInBounds_toArray, List.set_cons_zero, List.set_cons_succ, iR, iT]
                        rfl
                      refine iZ (i := 30) (N := some 88) (v := undef) (a' := ?_) #[true, true, true, true, true, true, true, true, true, true, true, true, true, true, true, true, true, true, true, true, true, true, true, true, true, true, true, true, true, true, true, false] rfl rfl (iQ HT_.out (by kernel_rfl)) (fun _ _ _ h => h) (Or.inr ⟨by rfl, rfl⟩) ?_ ?_
                      rotate_left
                      · simp only [Act.put, List.setIfInBounds_toArray, List.set_cons_zero, List.set_cons_succ, iR, iT]
                        rfl
                      refine iZ (i := 31) (N := some 89) (v := ?_) (a' := ?_) #[true, true, true, true, true, true, true, true, true, true, true, true, true, true, true, true, true, true, true, true, true, true, true, true, true, true, true, true, true, true, true, true] rfl rfl (iQ HT_.out (by kernel_rfl)) (fun _ _ _ h => h) (Or.inl ⟨by rfl, ?_⟩) ?_ ?_
                      rotate_left
                      · intro w'
                        go_simp
                        with_reducible rfl
                      rotate_left
                      · simp only [Act.put, List.setIfInBounds_toArray, List.set_cons_zero, List.set_cons_succ, iR, iT]
                        rfl
                      refine lU (kL HT_.out (by kernel_rfl)) ?_
                      try go_wp2
                      go_ret
                      exact ⟨by first | rfl | (simp [iU, iV] <;> rfl) | (simp only [← hji25]; first | rfl | (simp [iU, iV] <;> rfl)) | (simp [*, iU, iV] <;> rfl), by repeat (first | (with_reducible first | exact HB.out | apply iF | apply iD | apply iG | refine iE ?_ GE404.out | refine iE ?_ GE409.out) | exact HB.out)⟩
                    · rw [if_neg c28] at H
                      have c28b0 : decide ((rd t410 x14_1) ≤ (rd t410 (ji25))) = false := decide_eq_false c28
                      clear c28
                      replace H := Option.bind_eq_some_iff.mp H
                      obtain ⟨t422, A310, H⟩ := H
                      replace H : (if t422 = true then (stratumlaw12_SpansNodes.l0 k1 (Int.tmod (wrap64 (a1_0)) 200) t410 t413 t416 (wrap64 (x14_1 + 1)) t405 t406) else ((stratumlaw12_has.f k1 t416 (rd t410 x14_1)).bind fun t424 => (if t424 = true then (stratumlaw12_SpansNodes.l0 k1 (Int.tmod (wrap64 (a1_0)) 200) t410 t413 t416 (wrap64 (x14_1 + 1)) t405 t406) else (some false)))) = some r := H
                      have A31 := iC.mk A310
                      clear A310
                      by_cases c32 : t422 = true
                      · subst c32
                        have H1 : (stratumlaw12_SpansNodes.l0 k1 (Int.tmod (wrap64 (a1_0)) 200) t410 t413 t416 (wrap64 (x14_1 + 1)) t405 t406) = some r := by rw [if_pos rfl] at H; exact H
                        clear H
                        have H := H1
                        clear H1
                        have H' := iC.mk H
                        clear H
                        obtain ⟨Ao33, co33, eo33⟩ := Kd.R_slice HO_11.out
                        subst eo33
                        try go_wp2
                        have n0_ := iC.mk (Kd.R_drew HO_11.out)
                        have n1_ := iC.mk (Kd.R_drew HO_12.out)
                        have n2_ := iC.mk (Kd.R_drew HO_13.out)
                        have n3_ := iC.mk (Kd.R_drew HO_410001.out)
                        have n4_ := iC.mk (iO BK404.out)
                        have n5_ := iC.mk (iO BK409.out)
                        have n6_ := iC.mk (iG HB.out)
                        clear HO_11
                        clear HO_12
                        clear HO_13
                        clear HO_410001
                        clear BK404
                        clear BK409
                        clear HB
                        have HO_11 := n0_
                        have HO_12 := n1_
                        have HO_13 := n2_
                        have HO_410001 := n3_
                        have BK404 := n4_
                        have BK409 := n5_
                        have HB := n6_
                        clear n0_ n1_ n2_ n3_ n4_ n5_ n6_
                        have p419 : 0 ≤ (x14_1 : Int) := of_decide_eq_true asm_
                        have q419 : x14_1 < (t410.length : Int) := of_decide_eq_true asm_
                        obtain ⟨ad419, e419, hx419_0⟩ := Kd.at_int (Kd.R_reads' HO_11.out).2.2 x14_1 p419 q419
                        cases e419
                        replace p419 := eq_true p419
                        replace q419 := eq_true q419
                        have p420 : 0 ≤ ((ji25) : Int) := of_decide_eq_true asm_
                        have q420 : (ji25) < (t410.length : Int) := of_decide_eq_true asm_
                        obtain ⟨ad420, e420, hx420_0⟩ := Kd.at_int (Kd.R_reads' HO_11.out).2.2 (ji25) p420 q420
                        obtain rfl : ad419 = ad420 := (by injection e420)
                        replace p420 := eq_true p420
                        replace q420 := eq_true q420
                        have p421 : 0 ≤ (x14_1 : Int) := of_decide_eq_true asm_
                        have q421 : x14_1 < (t410.length : Int) := of_decide_eq_true asm_
                        obtain ⟨ad421, e421, hx421_0⟩ := Kd.at_int (Kd.R_reads' HO_11.out).2.2 x14_1 p421 q421
                        obtain rfl : ad419 = ad421 := (by injection e421)
                        replace p421 := eq_true p421
                        replace q421 := eq_true q421
                        obtain ⟨Ao35, co35, eo35⟩ := Kd.R_slice HO_12.out
                        (first | subst eo35 | (injection eo35 with f1_ f2_ f3_; have f4_ := f1_.symm; have f5_ := f3_.symm; clear f1_ f2_ f3_; subst f4_; subst f5_))
                        refine kU (n := 32) (S := fun w' => w'.cell? (ad419.add (x14_1).toNat) = some (.int .i64 (rd t410 x14_1)) ∧ w'.cell? (ad419.add ((ji25)).toNat) = some (.int .i64 (rd t410 (ji25))) ∧ w'.cell? (ad419.add (x14_1).toNat) = some (.int .i64 (rd t410 x14_1))) (ds := []) #[false, false, false, false, false, false, false, false, false, false, false, false, false, false, false, false, false, false, false, false, false, false, false, false, false, false, false, false, false, false, false, false] (by kernel_rfl) rfl rfl ⟨hx419_0, hx420_0, hx421_0⟩ (fun hHeld => ?_); refine jW stratumlaw12_SpansNodes.tab11 stratumlaw12_SpansNodes.bits11 (fun HT_ HW_ => ?_)
                        generalize wr.drew = w34 at HO_11 HO_12 HO_13 HO_410001 BK404 BK409 HB hx419_0 hx420_0 hx421_0 hHeld ⊢
                        refine iZ (i := 0) (N := some 58) (v := ?_) (a' := ?_) #[true, false, false, false, false, false, false, false, false, false, false, false, false, false, false, false, false, false, false, false, false, false, false, false, false, false, false, false, false, false, false, false] rfl rfl (iQ HT_.out (by kernel_rfl)) (fun _ _ _ h => h) (Or.inl ⟨by rfl, ?_⟩) ?_ ?_
                        rotate_left
                        · intro w'
                          go_simp
                          with_reducible rfl
                        rotate_left
                        · simp only [Act.put, List.setIfInBounds_toArray, List.set_cons_zero, List.set_cons_succ, iR, iT]
                          rfl
                        refine iZ (i := 1) (N := some 59) (v := ?_) (a' := ?_) #[true, true, false, false, false, false, false, false, false, false, false, false, false, false, false, false, false, false, false, false, false, false, false, false, false, false, false, false, false, false, false, false] rfl rfl (iQ HT_.out (by kernel_rfl)) (fun _ _ _ h => h) (Or.inl ⟨by rfl, ?_⟩) ?_ ?_
                        rotate_left
                        · intro w'
                          go_simp
                          with_reducible rfl
                        rotate_left
                        · simp only [Act.put, List.setIfInBounds_toArray, List.set_cons_zero, List.set_cons_succ, iR, iT]
                          rfl
                        refine iZ (i := 2) (N := some 60) (v := ?_) (a' := ?_) #[true, true, true, false, false, false, false, false, false, false, false, false, false, false, false, false, false, false, false, false, false, false, false, false, false, false, false, false, false, false, false, false] rfl rfl (iQ HT_.out (by kernel_rfl)) (fun _ _ _ h => h) (Or.inl ⟨by rfl, ?_⟩) ?_ ?_
                        rotate_left
                        · intro w'
                          go_simp
                          with_reducible rfl
                        rotate_left
                        · simp only [Act.put, List.setIfInBounds_toArray, List.set_cons_zero, List.set_cons_succ, iR, iT]
                          rfl
                        refine iZ (i := 3) (N := some 61) (v := ?_) (a' := ?_) #[true, true, true, true, false, false, false, false, false, false, false, false, false, false, false, false, false, false, false, false, false, false, false, false, false, false, false, false, false, false, false, false] rfl rfl (iQ HT_.out (by kernel_rfl)) (fun _ _ _ h => h) (Or.inl ⟨by rfl, ?_⟩) ?_ ?_
                        rotate_left
                        · intro w'
                          go_simp
                          with_reducible rfl
                        rotate_left
                        · simp only [Act.put, List.setIfInBounds_toArray, List.set_cons_zero, List.set_cons_succ, iR, iT]
                          rfl
                        refine iZ (i := 4) (N := some 62) (v := ?_) (a' := ?_) #[true, true, true, true, true, false, false, false, false, false, false, false, false, false, false, false, false, false, false, false, false, false, false, false, false, false, false, false, false, false, false, false] rfl rfl (iQ HT_.out (by kernel_rfl)) (fun _ _ _ h => h) (Or.inl ⟨by rfl, ?_⟩) ?_ ?_
                        rotate_left
                        · intro w'
                          go_simp
                          with_reducible rfl
                        rotate_left
                        · simp only [Act.put, List.setIfInBounds_toArray, List.set_cons_zero, List.set_cons_succ, iR, iT]
                          rfl
                        refine iZ (i := 5) (N := some 63) (v := ?_) (a' := ?_) #[true, true, true, true, true, true, false, false, false, false, false, false, false, false, false, false, false, false, false, false, false, false, false, false, false, false, false, false, false, false, false, false] rfl rfl (iQ HT_.out (by kernel_rfl)) (fun _ _ _ h => h) (Or.inl ⟨by rfl, ?_⟩) ?_ ?_
                        rotate_left
                        · intro w'
                          go_simp
                          with_reducible rfl
                        rotate_left
                        · simp only [Act.put, List.setIfInBounds_toArray, List.set_cons_zero, List.set_cons_succ, iR, iT]
                          rfl
                        refine iZ (i := 7) (N := some 65) (v := ?_) (a' := ?_) #[true, true, true, true, true, true, false, true, false, false, false, false, false, false, false, false, false, false, false, false, false, false, false, false, false, false, false, false, false, false, false, false] rfl rfl (iQ HT_.out (by kernel_rfl)) (fun _ _ _ h => h) (Or.inl ⟨by rfl, ?_⟩) ?_ ?_
                        rotate_left
                        · intro w'
                          go_simp
                          with_reducible rfl
                        rotate_left
                        · simp only [Act.put, List.setIfInBounds_toArray, List.set_cons_zero, List.set_cons_succ, iR, iT]
                          rfl
                        refine iZ (i := 8) (N := some 66) (v := ?_) (a' := ?_) #[true, true, true, true, true, true, false, true, true, false, false, false, false, false, false, false, false, false, false, false, false, false, false, false, false, false, false, false, false, false, false, false] rfl rfl (iQ HT_.out (by kernel_rfl)) (fun _ _ _ h => h) (Or.inl ⟨by rfl, ?_⟩) ?_ ?_
                        rotate_left
                        · intro w'
                          go_simp
                          with_reducible rfl
                        rotate_left
                        · simp only [Act.put, List.setIfInBounds_toArray, List.set_cons_zero, List.set_cons_succ, iR, iT]
                          rfl
                        refine iZ (i := 9) (N := some 67) (v := ?_) (a' := ?_) #[true, true, true, true, true, true, false, true, true, true, false, false, false, false, false, false, false, false, false, false, false, false, false, false, false, false, false, false, false, false, false, false] rfl rfl (iQ HT_.out (by kernel_rfl)) (fun _ _ _ h => h) (Or.inl ⟨by rfl, ?_⟩) ?_ ?_
                        rotate_left
                        · intro w'
                          go_simp
                          with_reducible rfl
                        rotate_left
                        · simp only [Act.put, List.setIfInBounds_toArray, List.set_cons_zero, List.set_cons_succ, iR, iT]
                          rfl
                        refine iZ (i := 10) (N := some 68) (v := ?_) (a' := ?_) #[true, true, true, true, true, true, false, true, true, true, true, false, false, false, false, false, false, false, false, false, false, false, false, false, false, false, false, false, false, false, false, false] rfl rfl (iQ HT_.out (by kernel_rfl)) (fun _ _ _ h => h) (Or.inl ⟨by rfl, ?_⟩) ?_ ?_
                        rotate_left
                        · intro w'
                          go_simp
                          with_reducible rfl
                        rotate_left
                        · simp only [Act.put, List.setIfInBounds_toArray, List.set_cons_zero, List.set_cons_succ, iR, iT]
                          rfl
                        refine take_ (i := 6) (N := some 64) (v := ?_) (a' := ?_) #[true, true, true, true, true, true, true, true, true, true, true, false, false, false, false, false, false, false, false, false, false, false, false, false, false, false, false, false, false, false, false, false] rfl rfl (jL HT_.out HW_.out (by kernel_rfl)) (fun _ _ _ h => h) (Or.inl ⟨by rfl, ?_⟩) hHeld ?_ ?_
                        rotate_left
                        · rintro w' ⟨s0, s1, s2⟩
                          go_simp
                          with_reducible rfl
                        rotate_left
                        · simp only [Act.put, List.setIfInBounds_toArray, List.set_cons_zero, List.set_cons_succ, iR, iT]
                          rfl
                        refine take_ (i := 11) (N := some 69) (v := ?_) (a' := ?_) #[true, true, true, true, true, true, true, true, true, true, true, true, false, false, false, false, false, false, false, false, false, false, false, false, false, false, false, false, false, false, false, false] rfl rfl (jL HT_.out HW_.out (by kernel_rfl)) (fun _ _ _ h => h) (Or.inl ⟨by rfl, ?_⟩) hHeld ?_ ?_
                        rotate_left
                        · rintro w' ⟨s0, s1, s2⟩
                          go_simp
                          with_reducible rfl
                        rotate_left
                        · simp only [Act.put, List.setIfInBounds_toArray, List.set_cons_zero, List.set_cons_succ, iR, iT]
                          rfl
                        refine iZ (i := 12) (N := some 70) (v := ?_) (a' := ?_) #[true, true, true, true, true, true, true, true, true, true, true, true, true, false, false, false, false, false, false, false, false, false, false, false, false, false, false, false, false, false, false, false] rfl rfl (iQ HT_.out (by kernel_rfl)) (fun _ _ _ h => h) (Or.inl ⟨by rfl, ?_⟩) ?_ ?_
                        rotate_left
                        · intro w'
                          go_simp
                          with_reducible rfl
                        rotate_left
                        · simp only [Act.put, List.setIfInBounds_toArray, List.set_cons_zero, List.set_cons_succ, iR, iT]
                          rfl
                        refine iZ (i := 13) (N := some 71) (v := ?_) (a' := ?_) #[true, true, true, true, true, true, true, true, true, true, true, true, true, true, false, false, false, false, false, false, false, false, false, false, false, false, false, false, false, false, false, false] rfl rfl (iQ HT_.out (by kernel_rfl)) (fun _ _ _ h => h) (Or.inl ⟨by rfl, ?_⟩) ?_ ?_
                        rotate_left
                        · intro w'
                          go_simp
                          with_reducible rfl
                        rotate_left
                        · simp only [Act.put, List.setIfInBounds_toArray, List.set_cons_zero, List.set_cons_succ, iR, iT]
                          rfl
                        refine iZ (i := 14) (N := some 72) (v := ?_) (a' := ?_) #[true, true, true, true, true, true, true, true, true, true, true, true, true, true, true, false, false, false, false, false, false, false, false, false, false, false, false, false, false, false, false, false] rfl rfl (iQ HT_.out (by kernel_rfl)) (fun _ _ _ h => h) (Or.inl ⟨by rfl, ?_⟩) ?_ ?_
                        rotate_left
                        · intro w'
                          go_simp
                          with_reducible rfl
                        rotate_left
                        · simp only [Act.put, List.setIfInBounds_toArray, List.set_cons_zero, List.set_cons_succ, iR, iT]
                          rfl
                        refine iZ (i := 15) (N := some 73) (v := ?_) (a' := ?_) #[true, true, true, true, true, true, true, true, true, true, true, true, true, true, true, true, false, false, false, false, false, false, false, false, false, false, false, false, false, false, false, false] rfl rfl (iQ HT_.out (by kernel_rfl)) (fun _ _ _ h => h) (Or.inl ⟨by rfl, ?_⟩) ?_ ?_
                        rotate_left
                        · intro w'
                          go_simp
                          with_reducible rfl
                        rotate_left
                        · simp only [Act.put, List.setIfInBounds_toArray, List.set_cons_zero, List.set_cons_succ, iR, iT]
                          rfl
                        refine iZ (i := 16) (N := some 74) (v := ?_) (a' := ?_) #[true, true, true, true, true, true, true, true, true, true, true, true, true, true, true, true, true, false, false, false, false, false, false, false, false, false, false, false, false, false, false, false] rfl rfl (iQ HT_.out (by kernel_rfl)) (fun _ _ _ h => h) (Or.inl ⟨by rfl, ?_⟩) ?_ ?_
                        rotate_left
                        · intro w'
                          go_simp
                          with_reducible rfl
                        rotate_left
                        · simp only [Act.put, List.setIfInBounds_toArray, List.set_cons_zero, List.set_cons_succ, iR, iT]
                          rfl
                        refine iZ (i := 17) (N := some 75) (v := ?_) (a' := ?_) #[true, true, true, true, true, true, true, true, true, true, true, true, true, true, true, true, true, true, false, false, false, false, false, false, false, false, false, false, false, false, false, false] rfl rfl (iQ HT_.out (by kernel_rfl)) (fun _ _ _ h => h) (Or.inl ⟨by rfl, ?_⟩) ?_ ?_
                        rotate_left
                        · intro w'
                          go_simp
                          with_reducible rfl
                        rotate_left
                        · simp only [Act.put, List.setIfInBounds_toArray, List.set_cons_zero, List.set_cons_succ, iR, iT]
                          rfl
                        refine iZ (i := 18) (N := some 76) (v := ?_) (a' := ?_) #[true, true, true, true, true, true, true, true, true, true, true, true, true, true, true, true, true, true, true, false, false, false, false, false, false, false, false, false, false, false, false, false] rfl rfl (iQ HT_.out (by kernel_rfl)) (fun _ _ _ h => h) (Or.inl ⟨by rfl, ?_⟩) ?_ ?_
                        rotate_left
                        · intro w'
                          go_simp
                          with_reducible rfl
                        rotate_left
                        · simp only [Act.put, List.setIfInBounds_toArray, List.set_cons_zero, List.set_cons_succ, iR, iT]
                          rfl
                        refine take_ (i := 19) (N := some 77) (v := ?_) (a' := ?_) #[true, true, true, true, true, true, true, true, true, true, true, true, true, true, true, true, true, true, true, true, false, false, false, false, false, false, false, false, false, false, false, false] rfl rfl (jL HT_.out HW_.out (by kernel_rfl)) (fun _ _ _ h => h) (Or.inl ⟨by rfl, ?_⟩) hHeld ?_ ?_
                        rotate_left
                        · rintro w' ⟨s0, s1, s2⟩
                          go_simp
                          with_reducible rfl
                        rotate_left
                        · simp only [Act.put, List.setIfInBounds_toArray, List.set_cons_zero, List.set_cons_succ, iR, iT]
                          rfl
                        refine one_ (i := 20) (N := some 78) #[true, true, true, true, true, true, true, true, true, true, true, true, true, true, true, true, true, true, true, true, true, false, false, false, false, false, false, false, false, false, false, false] rfl rfl (kH HT_.out (by kernel_rfl)) (by decide) (fun K hK => ?_)
                        refine l9 Try.func32 (by kernel_rfl) rfl #[.slice Ao35 t413.length co35, .int .i64 (rd t410 x14_1)] (by rfl) rfl rfl (by (try simp only [List.map_toArray, List.map_cons, List.map_nil]); first | done | rfl | (simp only [List.length_drop, List.length_take]; rfl)) ?_
                        with_reducible refine (stratumlaw12_has.calls k1 _ _ t413 (rd t410 x14_1) true _ ?side1 ?side2 A31.out).mono ?_
                        (case side1 => repeat (first | exact (Kd.R_reads' HO_12.out).2.2 | (with_reducible refine Kd.C_alloc ?_ _) | (with_reducible refine Kd.C_drewN ?_ _) | (with_reducible refine Kd.C_drew ?_)))
                        (case side2 => exact (Kd.R_reads' HO_12.out).2.1)
                        rintro e w' ⟨rfl, ⟨nd, rfl⟩⟩
                        refine ⟨_, rfl, ?_⟩
                        refine hK.out _ _ ⟨hHeld.1, hHeld.2.1, hHeld.2.2⟩ (fun hHeld => ?_)
                        clear hK K
                        refine kM (a' := ?_) ?_ ?_
                        rotate_left
                        · show Act.put _ (some 78) _ = _
                          simp only [Act.put, List.setIfInBounds_toArray, List.set_cons_zero, List.set_cons_succ, iR, iT]
                          rfl
                        refine iZ (i := 21) (N := some 79) (v := ?_) (a' := ?_) #[true, true, true, true, true, true, true, true, true, true, true, true, true, true, true, true, true, true, true, true, true, true, false, false, false, false, false, false, false, false, false, false] rfl rfl (iQ HT_.out (by kernel_rfl)) (fun _ _ _ h => h) (Or.inl ⟨by rfl, ?_⟩) ?_ ?_
                        rotate_left
                        · intro w'
                          go_simp
                          with_reducible rfl
                        rotate_left
                        · simp only [Act.put, List.setIfInBounds_toArray, List.set_cons_zero, List.set_cons_succ, iR, iT]
                          rfl
                        refine iZ (i := 22) (N := some 80) (v := ?_) (a' := ?_) #[true, true, true, true, true, true, true, true, true, true, true, true, true, true, true, true, true, true, true, true, true, true, true, false, false, false, false, false, false, false, false, false] rfl rfl (iQ HT_.out (by kernel_rfl)) (fun _ _ _ h => h) (Or.inl ⟨by rfl, ?_⟩) ?_ ?_
                        rotate_left
                        · intro w'
                          go_simp
                          with_reducible rfl
                        rotate_left
                        · simp only [Act.put, List.setIfInBounds_toArray, List.set_cons_zero, List.set_cons_succ, iR, iT]
                          rfl
                        refine iZ (i := 23) (N := some 81) (v := undef) (a' := ?_) #[true, true, true, true, true, true, true, true, true, true, true, true, true, true, true, true, true, true, true, true, true, true, true, true, false, false, false, false, false, false, false, false] rfl rfl (iQ HT_.out (by kernel_rfl)) (fun _ _ _ h => h) (Or.inr ⟨by rfl, rfl⟩) ?_ ?_
                        rotate_left
                        · simp only [Act.put, List.setIfInBounds_toArray, List.set_cons_zero, List.set_cons_succ, iR, iT]
                          rfl
                        refine iZ (i := 24) (N := some 82) (v := undef) (a' := ?_) #[true, true, true, true, true, true, true, true, true, true, true, true, true, true, true, true, true, true, true, true, true, true, true, true, true, false, false, false, false, false, false, false] rfl rfl (iQ HT_.out (by kernel_rfl)) (fun _ _ _ h => h) (Or.inr ⟨by rfl, rfl⟩) ?_ ?_
                        rotate_left
                        · simp only [Act.put, List.setIfInBounds_toArray, List.set_cons_zero, List.set_cons_succ, iR, iT]
                          rfl
                        refine iZ (i := 25) (N := some 83) (v := undef) (a' := ?_) #[true, true, true, true, true, true, true, true, true, true, true, true, true, true, true, true, true, true, true, true, true, true, true, true, true, true, false, false, false, false, false, false] rfl rfl (iQ HT_.out (by kernel_rfl)) (fun _ _ _ h => h) (Or.inr ⟨by rfl, rfl⟩) ?_ ?_
                        rotate_left
                        · simp only [Act.put, List.setIfInBounds_toArray, List.set_cons_zero, List.set_cons_succ, iR, iT]
                          rfl
                        refine iZ (i := 26) (N := some 84) (v := undef) (a' := ?_) #[true, true, true, true, true, true, true, true, true, true, true, true, true, true, true, true, true, true, true, true, true, true, true, true, true, true, true, false, false, false, false, false] rfl rfl (iQ HT_.out (by kernel_rfl)) (fun _ _ _ h => h) (Or.inr ⟨by rfl, rfl⟩) ?_ ?_
                        rotate_left
                        · simp only [Act.put, List.setIfInBounds_toArray, List.set_cons_zero, List.set_cons_succ, iR, iT]
                          rfl
                        refine iZ (i := 27) (N := some 85) (v := undef) (a' := ?_) #[true, true, true, true, true, true, true, true, true, true, true, true, true, true, true, true, true, true, true, true, true, true, true, true, true, true, true, true, false, false, false, false] rfl rfl (iQ HT_.out (by kernel_rfl)) (fun _ _ _ h => h) (Or.inr ⟨by rfl, rfl⟩) ?_ ?_
                        rotate_left
                        · simp only [Act.put, List.setIfInBounds_toArray, List.set_cons_zero, List.set_cons_succ, iR, iT]
                          rfl
                        refine iZ (i := 28) (N := some 86) (v := undef) (a' := ?_) #[true, true, true, true, true, true, true, true, true, true, true, true, true, true, true, true, true, true, true, true, true, true, true, true, true, true, true, true, true, false, false, false] rfl rfl (iQ HT_.out (by kernel_rfl)) (fun _ _ _ h => h) (Or.inr ⟨by rfl, rfl⟩) ?_ ?_
                        rotate_left
                        · simp only [Act.put, List.setIfInBounds_toArray, List.set_cons_zero, List.set_cons_succ, iR, iT]
                          rfl
                        refine iZ (i := 29) (N := some 87) (v := undef) (a' := ?_) #[true, true, true, true, true, true, true, true, true, true, true, true, true, true, true, true, true, true, true, true, true, true, true, true, true, true, true, true, true, true, false, false] rfl rfl (iQ HT_.out (by kernel_rfl)) (fun _ _ _ h => h) (Or.inr ⟨by rfl, rfl⟩) ?_ ?_
                        rotate_left
                        · simp only [Act.put, List.setIfInBounds_toArray, List.set_cons_zero, List.set_cons_succ, iR, iT]
                          rfl
                        refine iZ (i := 30) (N := some 88) (v := ?_) (a' := ?_) #[true, true, true, true, true, true, true, true, true, true, true, true, true, true, true, true, true, true, true, true, true, true, true, true, true, true, true, true, true, true, true, false] rfl rfl (iQ HT_.out (by kernel_rfl)) (fun _ _ _ h => h) (Or.inl ⟨by rfl, ?_⟩) ?_ ?_
                        rotate_left
                        · intro w'
                          go_simp
                          with_reducible rfl
                        rotate_left
                        · simp only [Act.put, List.setIfInBounds_toArray, List.set_cons_zero, List.set_cons_succ, iR, iT]
                          rfl
                        refine iZ (i := 31) (N := some 89) (v := ?_) (a' := ?_) #[true, true, true, true, true, true, true, true, true, true, true, true, true, true, true, true, true, true, true, true, true, true, true, true, true, true, true, true, true, true, true, true] rfl rfl (iQ HT_.out (by kernel_rfl)) (fun _ _ _ h => h) (Or.inl ⟨by rfl, ?_⟩) ?_ ?_
                        rotate_left
                        · intro w'
                          go_simp
                          with_reducible rfl
                        rotate_left
                        · simp only [Act.put, List.setIfInBounds_toArray, List.set_cons_zero, List.set_cons_succ, iR, iT]
                          rfl
                        refine lU (kL HT_.out (by kernel_rfl)) ?_
                        try go_wp2
                        go_roundg k1
                        case measure => have := HK1.out; omega
                        case rel => exact ⟨(wrap64 (x14_1 + 1)), (by first | rfl | (simp; done) | (simp [*]; done)), H', ⟨by have := HK1.out; omega⟩, ⟨by (with_reducible repeat (first | apply Kd.R_alloc | apply Kd.R_drewN | apply Kd.R_drew)); exact HO_11.out⟩, ⟨by (with_reducible repeat (first | apply Kd.R_alloc | apply Kd.R_drewN | apply Kd.R_drew)); exact HO_12.out⟩, ⟨by (with_reducible repeat (first | apply Kd.R_alloc | apply Kd.R_drewN | apply Kd.R_drew)); exact HO_13.out⟩, ⟨by (with_reducible repeat (first | apply Kd.R_alloc | apply Kd.R_drewN | apply Kd.R_drew)); exact HO_410001.out⟩, ⟨bk_ BK404.out⟩, ⟨bk_ BK409.out⟩, ⟨by repeat (first | (with_reducible first | exact HB.out | apply iF | apply iD | apply iG | refine iE ?_ GE404.out | refine iE ?_ GE409.out) | exact HB.out)⟩⟩
                      · replace c32 := Bool.eq_false_iff.mpr c32
                        subst c32
                        have H1 : ((stratumlaw12_has.f k1 t416 (rd t410 x14_1)).bind fun t424 => (if t424 = true then (stratumlaw12_SpansNodes.l0 k1 (Int.tmod (wrap64 (a1_0)) 200) t410 t413 t416 (wrap64 (x14_1 + 1)) t405 t406) else (some false))) = some r := by rw [if_neg (show ¬ (false = true) by decide)] at H; exact H
                        clear H
                        have H := H1
                        clear H1
                        replace H := Option.bind_eq_some_iff.mp H
                        obtain ⟨t424, A360, H⟩ := H
                        replace H : (if t424 = true then (stratumlaw12_SpansNodes.l0 k1 (Int.tmod (wrap64 (a1_0)) 200) t410 t413 t416 (wrap64 (x14_1 + 1)) t405 t406) else (some false)) = some r := H
                        have A36 := iC.mk A360
                        clear A360
                        by_cases c37 : t424 = true
                        · subst c37
                          have H1 : (stratumlaw12_SpansNodes.l0 k1 (Int.tmod (wrap64 (a1_0)) 200) t410 t413 t416 (wrap64 (x14_1 + 1)) t405 t406) = some r := by rw [if_pos rfl] at H; exact H
                          clear H
                          have H := H1
                          clear H1
                          have H' := iC.mk H
                          clear H
                          obtain ⟨Ao38, co38, eo38⟩ := Kd.R_slice HO_11.out
                          subst eo38
                          try go_wp2
                          have n0_ := iC.mk (Kd.R_drew HO_11.out)
                          have n1_ := iC.mk (Kd.R_drew HO_12.out)
                          have n2_ := iC.mk (Kd.R_drew HO_13.out)
                          have n3_ := iC.mk (Kd.R_drew HO_410001.out)
                          have n4_ := iC.mk (iO BK404.out)
                          have n5_ := iC.mk (iO BK409.out)
                          have n6_ := iC.mk (iG HB.out)
                          clear HO_11
                          clear HO_12
                          clear HO_13
                          clear HO_410001
                          clear BK404
                          clear BK409
                          clear HB
                          have HO_11 := n0_
                          have HO_12 := n1_
                          have HO_13 := n2_
                          have HO_410001 := n3_
                          have BK404 := n4_
                          have BK409 := n5_
                          have HB := n6_
                          clear n0_ n1_ n2_ n3_ n4_ n5_ n6_
                          have p419 : 0 ≤ (x14_1 : Int) := of_decide_eq_true asm_
                          have q419 : x14_1 < (t410.length : Int) := of_decide_eq_true asm_
                          obtain ⟨ad419, e419, hx419_0⟩ := Kd.at_int (Kd.R_reads' HO_11.out).2.2 x14_1 p419 q419
                          cases e419
                          replace p419 := eq_true p419
                          replace q419 := eq_true q419
                          have p420 : 0 ≤ ((ji25) : Int) := of_decide_eq_true asm_
                          have q420 : (ji25) < (t410.length : Int) := of_decide_eq_true asm_
                          obtain ⟨ad420, e420, hx420_0⟩ := Kd.at_int (Kd.R_reads' HO_11.out).2.2 (ji25) p420 q420
                          obtain rfl : ad419 = ad420 := (by injection e420)
                          replace p420 := eq_true p420
                          replace q420 := eq_true q420
                          have p421 : 0 ≤ (x14_1 : Int) := of_decide_eq_true asm_
                          have q421 : x14_1 < (t410.length : Int) := of_decide_eq_true asm_
                          obtain ⟨ad421, e421, hx421_0⟩ := Kd.at_int (Kd.R_reads' HO_11.out).2.2 x14_1 p421 q421
                          obtain rfl : ad419 = ad421 := (by injection e421)
                          replace p421 := eq_true p421
                          replace q421 := eq_true q421
                          obtain ⟨Ao40, co40, eo40⟩ := Kd.R_slice HO_12.out
                          (first | subst eo40 | (injection eo40 with f1_ f2_ f3_; have f4_ := f1_.symm; have f5_ := f3_.symm; clear f1_ f2_ f3_; subst f4_; subst f5_))
                          have p423 : 0 ≤ (x14_1 : Int) := of_decide_eq_true asm_
                          have q423 : x14_1 < (t410.length : Int) := of_decide_eq_true asm_
                          obtain ⟨ad423, e423, hx423_0⟩ := Kd.at_int (Kd.R_reads' HO_11.out).2.2 x14_1 p423 q423
                          obtain rfl : ad419 = ad423 := (by injection e423)
                          replace p423 := eq_true p423
                          replace q423 := eq_true q423
                          refine kU (n := 32) (S := fun w' => w'.cell? (ad419.add (x14_1).toNat) = some (.int .i64 (rd t410 x14_1)) ∧ w'.cell? (ad419.add ((ji25)).toNat) = some (.int .i64 (rd t410 (ji25))) ∧ w'.cell? (ad419.add (x14_1).toNat) = some (.int .i64 (rd t410 x14_1)) ∧ w'.cell? (ad419.add (x14_1).toNat) = some (.int .i64 (rd t410 x14_1))) (ds := []) #[false, false, false, false, false, false, false, false, false, false, false, false, false, false, false, false, false, false, false, false, false, false, false, false, false, false, false, false, false, false, false, false] (by kernel_rfl) rfl rfl ⟨hx419_0, hx420_0, hx421_0, hx423_0⟩ (fun hHeld => ?_); refine jW stratumlaw12_SpansNodes.tab11 stratumlaw12_SpansNodes.bits11 (fun HT_ HW_ => ?_)
                          generalize wr.drew = w39 at HO_11 HO_12 HO_13 HO_410001 BK404 BK409 HB hx419_0 hx420_0 hx421_0 hx423_0 hHeld ⊢
                          refine iZ (i := 0) (N := some 58) (v := ?_) (a' := ?_) #[true, false, false, false, false, false, false, false, false, false, false, false, false, false, false, false, false, false, false, false, false, false, false, false, false, false, false, false, false, false, false, false] rfl rfl (iQ HT_.out (by kernel_rfl)) (fun _ _ _ h => h) (Or.inl ⟨by rfl, ?_⟩) ?_ ?_
                          rotate_left
                          · intro w'
                            go_simp
                            with_reducible rfl
                          rotate_left
                          · simp only [Act.put, List.setIfInBounds_toArray, List.set_cons_zero, List.set_cons_succ, iR, iT]
                            rfl
                          refine iZ (i := 1) (N := some 59) (v := ?_) (a' := ?_) #[true, true, false, false, false, false, false, false, false, false, false, false, false, false, false, false, false, false, false, false, false, false, false, false, false, false, false, false, false, false, false, false] rfl rfl (iQ HT_.out (by kernel_rfl)) (fun _ _ _ h => h) (Or.inl ⟨by rfl, ?_⟩) ?_ ?_
                          rotate_left
                          · intro w'
                            go_simp
                            with_reducible rfl
                          rotate_left
                          · simp only [Act.put, List.setIfInBounds_toArray, List.set_cons_zero, List.set_cons_succ, iR, iT]
                            rfl
                          refine iZ (i := 2) (N := some 60) (v := ?_) (a' := ?_) #[true, true, true, false, false, false, false, false, false, false, false, false, false, false, false, false, false, false, false, false, false, false, false, false, false, false, false, false, false, false, false, false] rfl rfl (iQ HT_.out (by kernel_rfl)) (fun _ _ _ h => h) (Or.inl ⟨by rfl, ?_⟩) ?_ ?_
                          rotate_left
                          · intro w'
                            go_simp
                            with_reducible rfl
                          rotate_left
                          · simp only [Act.put, List.setIfInBounds_toArray, List.set_cons_zero, List.set_cons_succ, iR, iT]
                            rfl
                          refine iZ (i := 3) (N := some 61) (v := ?_) (a' := ?_) #[true, true, true, true, false, false, false, false, false, false, false, false, false, false, false, false, false, false, false, false, false, false, false, false, false, false, false, false, false, false, false, false] rfl rfl (iQ HT_.out (by kernel_rfl)) (fun _ _ _ h => h) (Or.inl ⟨by rfl, ?_⟩) ?_ ?_
                          rotate_left
                          · intro w'
                            go_simp
                            with_reducible rfl
                          rotate_left
                          · simp only [Act.put, List.setIfInBounds_toArray, List.set_cons_zero, List.set_cons_succ, iR, iT]
                            rfl
                          refine iZ (i := 4) (N := some 62) (v := ?_) (a' := ?_) #[true, true, true, true, true, false, false, false, false, false, false, false, false, false, false, false, false, false, false, false, false, false, false, false, false, false, false, false, false, false, false, false] rfl rfl (iQ HT_.out (by kernel_rfl)) (fun _ _ _ h => h) (Or.inl ⟨by rfl, ?_⟩) ?_ ?_
                          rotate_left
                          · intro w'
                            go_simp
                            with_reducible rfl
                          rotate_left
                          · simp only [Act.put, List.setIfInBounds_toArray, List.set_cons_zero, List.set_cons_succ, iR, iT]
                            rfl
                          refine iZ (i := 5) (N := some 63) (v := ?_) (a' := ?_) #[true, true, true, true, true, true, false, false, false, false, false, false, false, false, false, false, false, false, false, false, false, false, false, false, false, false, false, false, false, false, false, false] rfl rfl (iQ HT_.out (by kernel_rfl)) (fun _ _ _ h => h) (Or.inl ⟨by rfl, ?_⟩) ?_ ?_
                          rotate_left
                          · intro w'
                            go_simp
                            with_reducible rfl
                          rotate_left
                          · simp only [Act.put, List.setIfInBounds_toArray, List.set_cons_zero, List.set_cons_succ, iR, iT]
                            rfl
                          refine iZ (i := 7) (N := some 65) (v := ?_) (a' := ?_) #[true, true, true, true, true, true, false, true, false, false, false, false, false, false, false, false, false, false, false, false, false, false, false, false, false, false, false, false, false, false, false, false] rfl rfl (iQ HT_.out (by kernel_rfl)) (fun _ _ _ h => h) (Or.inl ⟨by rfl, ?_⟩) ?_ ?_
                          rotate_left
                          · intro w'
                            go_simp
                            with_reducible rfl
                          rotate_left
                          · simp only [Act.put, List.setIfInBounds_toArray, List.set_cons_zero, List.set_cons_succ, iR, iT]
                            rfl
                          refine iZ (i := 8) (N := some 66) (v := ?_) (a' := ?_) #[true, true, true, true, true, true, false, true, true, false, false, false, false, false, false, false, false, false, false, false, false, false, false, false, false, false, false, false, false, false, false, false] rfl rfl (iQ HT_.out (by kernel_rfl)) (fun _ _ _ h => h) (Or.inl ⟨by rfl, ?_⟩) ?_ ?_
                          rotate_left
                          · intro w'
                            go_simp
                            with_reducible rfl
                          rotate_left
                          · simp only [Act.put, List.setIfInBounds_toArray, List.set_cons_zero, List.set_cons_succ, iR, iT]
                            rfl
                          refine iZ (i := 9) (N := some 67) (v := ?_) (a' := ?_) #[true, true, true, true, true, true, false, true, true, true, false, false, false, false, false, false, false, false, false, false, false, false, false, false, false, false, false, false, false, false, false, false] rfl rfl (iQ HT_.out (by kernel_rfl)) (fun _ _ _ h => h) (Or.inl ⟨by rfl, ?_⟩) ?_ ?_
                          rotate_left
                          · intro w'
                            go_simp
                            with_reducible rfl
                          rotate_left
                          · simp only [Act.put, List.setIfInBounds_toArray, List.set_cons_zero, List.set_cons_succ, iR, iT]
                            rfl
                          refine iZ (i := 10) (N := some 68) (v := ?_) (a' := ?_) #[true, true, true, true, true, true, false, true, true, true, true, false, false, false, false, false, false, false, false, false, false, false, false, false, false, false, false, false, false, false, false, false] rfl rfl (iQ HT_.out (by kernel_rfl)) (fun _ _ _ h => h) (Or.inl ⟨by rfl, ?_⟩) ?_ ?_
                          rotate_left
                          · intro w'
                            go_simp
                            with_reducible rfl
                          rotate_left
                          · simp only [Act.put, List.setIfInBounds_toArray, List.set_cons_zero, List.set_cons_succ, iR, iT]
                            rfl
                          refine take_ (i := 6) (N := some 64) (v := ?_) (a' := ?_) #[true, true, true, true, true, true, true, true, true, true, true, false, false, false, false, false, false, false, false, false, false, false, false, false, false, false, false, false, false, false, false, false] rfl rfl (jL HT_.out HW_.out (by kernel_rfl)) (fun _ _ _ h => h) (Or.inl ⟨by rfl, ?_⟩) hHeld ?_ ?_
                          rotate_left
                          · rintro w' ⟨s0, s1, s2, s3⟩
                            go_simp
                            with_reducible rfl
                          rotate_left
                          · simp only [Act.put, List.setIfInBounds_toArray, List.set_cons_zero, List.set_cons_succ, iR, iT]
                            rfl
                          refine take_ (i := 11) (N := some 69) (v := ?_) (a' := ?_) #[true, true, true, true, true, true, true, true, true, true, true, true, false, false, false, false, false, false, false, false, false, false, false, false, false, false, false, false, false, false, false, false] rfl rfl (jL HT_.out HW_.out (by kernel_rfl)) (fun _ _ _ h => h) (Or.inl ⟨by rfl, ?_⟩) hHeld ?_ ?_
                          rotate_left
                          · rintro w' ⟨s0, s1, s2, s3⟩
                            go_simp
                            with_reducible rfl
                          rotate_left
                          · simp only [Act.put, List.setIfInBounds_toArray, List.set_cons_zero, List.set_cons_succ, iR, iT]
                            rfl
                          refine iZ (i := 12) (N := some 70) (v := ?_) (a' := ?_) #[true, true, true, true, true, true, true, true, true, true, true, true, true, false, false, false, false, false, false, false, false, false, false, false, false, false, false, false, false, false, false, false] rfl rfl (iQ HT_.out (by kernel_rfl)) (fun _ _ _ h => h) (Or.inl ⟨by rfl, ?_⟩) ?_ ?_
                          rotate_left
                          · intro w'
                            go_simp
                            with_reducible rfl
                          rotate_left
                          · simp only [Act.put, List.setIfInBounds_toArray, List.set_cons_zero, List.set_cons_succ, iR, iT]
                            rfl
                          refine iZ (i := 13) (N := some 71) (v := ?_) (a' := ?_) #[true, true, true, true, true, true, true, true, true, true, true, true, true, true, false, false, false, false, false, false, false, false, false, false, false, false, false, false, false, false, false, false] rfl rfl (iQ HT_.out (by kernel_rfl)) (fun _ _ _ h => h) (Or.inl ⟨by rfl, ?_⟩) ?_ ?_
                          rotate_left
                          · intro w'
                            go_simp
                            with_reducible rfl
                          rotate_left
                          · simp only [Act.put, List.setIfInBounds_toArray, List.set_cons_zero, List.set_cons_succ, iR, iT]
                            rfl
                          refine iZ (i := 14) (N := some 72) (v := ?_) (a' := ?_) #[true, true, true, true, true, true, true, true, true, true, true, true, true, true, true, false, false, false, false, false, false, false, false, false, false, false, false, false, false, false, false, false] rfl rfl (iQ HT_.out (by kernel_rfl)) (fun _ _ _ h => h) (Or.inl ⟨by rfl, ?_⟩) ?_ ?_
                          rotate_left
                          · intro w'
                            go_simp
                            with_reducible rfl
                          rotate_left
                          · simp only [Act.put, List.setIfInBounds_toArray, List.set_cons_zero, List.set_cons_succ, iR, iT]
                            rfl
                          refine iZ (i := 15) (N := some 73) (v := ?_) (a' := ?_) #[true, true, true, true, true, true, true, true, true, true, true, true, true, true, true, true, false, false, false, false, false, false, false, false, false, false, false, false, false, false, false, false] rfl rfl (iQ HT_.out (by kernel_rfl)) (fun _ _ _ h => h) (Or.inl ⟨by rfl, ?_⟩) ?_ ?_
                          rotate_left
                          · intro w'
                            go_simp
                            with_reducible rfl
                          rotate_left
                          · simp only [Act.put, List.setIfInBounds_toArray, List.set_cons_zero, List.set_cons_succ, iR, iT]
                            rfl
                          refine iZ (i := 16) (N := some 74) (v := ?_) (a' := ?_) #[true, true, true, true, true, true, true, true, true, true, true, true, true, true, true, true, true, false, false, false, false, false, false, false, false, false, false, false, false, false, false, false] rfl rfl (iQ HT_.out (by kernel_rfl)) (fun _ _ _ h => h) (Or.inl ⟨by rfl, ?_⟩) ?_ ?_
                          rotate_left
                          · intro w'
                            go_simp
                            with_reducible rfl
                          rotate_left
                          · simp only [Act.put, List.setIfInBounds_toArray, List.set_cons_zero, List.set_cons_succ, iR, iT]
                            rfl
                          refine iZ (i := 17) (N := some 75) (v := ?_) (a' := ?_) #[true, true, true, true, true, true, true, true, true, true, true, true, true, true, true, true, true, true, false, false, false, false, false, false, false, false, false, false, false, false, false, false] rfl rfl (iQ HT_.out (by kernel_rfl)) (fun _ _ _ h => h) (Or.inl ⟨by rfl, ?_⟩) ?_ ?_
                          rotate_left
                          · intro w'
                            go_simp
                            with_reducible rfl
                          rotate_left
                          · simp only [Act.put, List.setIfInBounds_toArray, List.set_cons_zero, List.set_cons_succ, iR, iT]
                            rfl
                          refine iZ (i := 18) (N := some 76) (v := ?_) (a' := ?_) #[true, true, true, true, true, true, true, true, true, true, true, true, true, true, true, true, true, true, true, false, false, false, false, false, false, false, false, false, false, false, false, false] rfl rfl (iQ HT_.out (by kernel_rfl)) (fun _ _ _ h => h) (Or.inl ⟨by rfl, ?_⟩) ?_ ?_
                          rotate_left
                          · intro w'
                            go_simp
                            with_reducible rfl
                          rotate_left
                          · simp only [Act.put, List.setIfInBounds_toArray, List.set_cons_zero, List.set_cons_succ, iR, iT]
                            rfl
                          refine take_ (i := 19) (N := some 77) (v := ?_) (a' := ?_) #[true, true, true, true, true, true, true, true, true, true, true, true, true, true, true, true, true, true, true, true, false, false, false, false, false, false, false, false, false, false, false, false] rfl rfl (jL HT_.out HW_.out (by kernel_rfl)) (fun _ _ _ h => h) (Or.inl ⟨by rfl, ?_⟩) hHeld ?_ ?_
                          rotate_left
                          · rintro w' ⟨s0, s1, s2, s3⟩
                            go_simp
                            with_reducible rfl
                          rotate_left
                          · simp only [Act.put, List.setIfInBounds_toArray, List.set_cons_zero, List.set_cons_succ, iR, iT]
                            rfl
                          refine one_ (i := 20) (N := some 78) #[true, true, true, true, true, true, true, true, true, true, true, true, true, true, true, true, true, true, true, true, true, false, false, false, false, false, false, false, false, false, false, false] rfl rfl (kH HT_.out (by kernel_rfl)) (by decide) (fun K hK => ?_)
                          refine l9 Try.func32 (by kernel_rfl) rfl #[.slice Ao40 t413.length co40, .int .i64 (rd t410 x14_1)] (by rfl) rfl rfl (by (try simp only [List.map_toArray, List.map_cons, List.map_nil]); first | done | rfl | (simp only [List.length_drop, List.length_take]; rfl)) ?_
                          with_reducible refine (stratumlaw12_has.calls k1 _ _ t413 (rd t410 x14_1) false _ ?side1 ?side2 A31.out).mono ?_
                          (case side1 => repeat (first | exact (Kd.R_reads' HO_12.out).2.2 | (with_reducible refine Kd.C_alloc ?_ _) | (with_reducible refine Kd.C_drewN ?_ _) | (with_reducible refine Kd.C_drew ?_)))
                          (case side2 => exact (Kd.R_reads' HO_12.out).2.1)
                          rintro e w' ⟨rfl, ⟨nd, rfl⟩⟩
                          refine ⟨_, rfl, ?_⟩
                          obtain ⟨Ao41, co41, eo41⟩ := Kd.R_slice HO_13.out
                          (first | subst eo41 | (injection eo41 with f1_ f2_ f3_; have f4_ := f1_.symm; have f5_ := f3_.symm; clear f1_ f2_ f3_; subst f4_; subst f5_))
                          refine hK.out _ _ ⟨hHeld.1, hHeld.2.1, hHeld.2.2.1, hHeld.2.2.2⟩ (fun hHeld => ?_)
                          clear hK K
                          refine kM (a' := ?_) ?_ ?_
                          rotate_left
                          · show Act.put _ (some 78) _ = _
                            simp only [Act.put, List.setIfInBounds_toArray, List.set_cons_zero, List.set_cons_succ, iR, iT]
                            rfl
                          refine iZ (i := 21) (N := some 79) (v := ?_) (a' := ?_) #[true, true, true, true, true, true, true, true, true, true, true, true, true, true, true, true, true, true, true, true, true, true, false, false, false, false, false, false, false, false, false, false] rfl rfl (iQ HT_.out (by kernel_rfl)) (fun _ _ _ h => h) (Or.inl ⟨by rfl, ?_⟩) ?_ ?_
                          rotate_left
                          · intro w'
                            go_simp
                            with_reducible rfl
                          rotate_left
                          · simp only [Act.put, List.setIfInBounds_toArray, List.set_cons_zero, List.set_cons_succ, iR, iT]
                            rfl
                          refine iZ (i := 22) (N := some 80) (v := ?_) (a' := ?_) #[true, true, true, true, true, true, true, true, true, true, true, true, true, true, true, true, true, true, true, true, true, true, true, false, false, false, false, false, false, false, false, false] rfl rfl (iQ HT_.out (by kernel_rfl)) (fun _ _ _ h => h) (Or.inl ⟨by rfl, ?_⟩) ?_ ?_
                          rotate_left
                          · intro w'
                            go_simp
                            with_reducible rfl
                          rotate_left
                          · simp only [Act.put, List.setIfInBounds_toArray, List.set_cons_zero, List.set_cons_succ, iR, iT]
                            rfl
                          refine iZ (i := 23) (N := some 81) (v := ?_) (a' := ?_) #[true, true, true, true, true, true, true, true, true, true, true, true, true, true, true, true, true, true, true, true, true, true, true, true, false, false, false, false, false, false, false, false] rfl rfl (iQ HT_.out (by kernel_rfl)) (fun _ _ _ h => h) (Or.inl ⟨by rfl, ?_⟩) ?_ ?_
                          rotate_left
                          · intro w'
                            go_simp
                            with_reducible rfl
                          rotate_left
                          · simp only [Act.put, List.setIfInBounds_toArray, List.set_cons_zero, List.set_cons_succ, iR, iT]
                            rfl
                          refine iZ (i := 24) (N := some 82) (v := ?_) (a' := ?_) #[true, true, true, true, true, true, true, true, true, true, true, true, true, true, true, true, true, true, true, true, true, true, true, true, true, false, false, false, false, false, false, false] rfl rfl (iQ HT_.out (by kernel_rfl)) (fun _ _ _ h => h) (Or.inl ⟨by rfl, ?_⟩) ?_ ?_
                          rotate_left
                          · intro w'
                            go_simp
                            with_reducible rfl
                          rotate_left
                          · simp only [Act.put, List.setIfInBounds_toArray, List.set_cons_zero, List.set_cons_succ, iR, iT]
                            rfl
                          refine iZ (i := 25) (N := some 83) (v := ?_) (a' := ?_) #[true, true, true, true, true, true, true, true, true, true, true, true, true, true, true, true, true, true, true, true, true, true, true, true, true, true, false, false, false, false, false, false] rfl rfl (iQ HT_.out (by kernel_rfl)) (fun _ _ _ h => h) (Or.inl ⟨by rfl, ?_⟩) ?_ ?_
                          rotate_left
                          · intro w'
                            go_simp
                            with_reducible rfl
                          rotate_left
                          · simp only [Act.put, List.setIfInBounds_toArray, List.set_cons_zero, List.set_cons_succ, iR, iT]
                            rfl
                          refine iZ (i := 26) (N := some 84) (v := ?_) (a' := ?_) #[true, true, true, true, true, true, true, true, true, true, true, true, true, true, true, true, true, true, true, true, true, true, true, true, true, true, true, false, false, false, false, false] rfl rfl (iQ HT_.out (by kernel_rfl)) (fun _ _ _ h => h) (Or.inl ⟨by rfl, ?_⟩) ?_ ?_
                          rotate_left
                          · intro w'
                            go_simp
                            with_reducible rfl
                          rotate_left
                          · simp only [Act.put, List.setIfInBounds_toArray, List.set_cons_zero, List.set_cons_succ, iR, iT]
                            rfl
                          refine take_ (i := 27) (N := some 85) (v := ?_) (a' := ?_) #[true, true, true, true, true, true, true, true, true, true, true, true, true, true, true, true, true, true, true, true, true, true, true, true, true, true, true, true, false, false, false, false] rfl rfl (jL HT_.out HW_.out (by kernel_rfl)) (fun _ _ _ h => h) (Or.inl ⟨by rfl, ?_⟩) hHeld ?_ ?_
                          rotate_left
                          · rintro w' ⟨s0, s1, s2, s3⟩
                            go_simp
                            with_reducible rfl
                          rotate_left
                          · simp only [Act.put, List.setIfInBounds_toArray, List.set_cons_zero, List.set_cons_succ, iR, iT]
                            rfl
                          refine one_ (i := 28) (N := some 86) #[true, true, true, true, true, true, true, true, true, true, true, true, true, true, true, true, true, true, true, true, true, true, true, true, true, true, true, true, true, false, false, false] rfl rfl (kH HT_.out (by kernel_rfl)) (by decide) (fun K hK => ?_)
                          refine l9 Try.func32 (by kernel_rfl) rfl #[.slice Ao41 t416.length co41, .int .i64 (rd t410 x14_1)] (by rfl) rfl rfl (by (try simp only [List.map_toArray, List.map_cons, List.map_nil]); first | done | rfl | (simp only [List.length_drop, List.length_take]; rfl)) ?_
                          with_reducible refine (stratumlaw12_has.calls k1 _ _ t416 (rd t410 x14_1) true _ ?side1 ?side2 A36.out).mono ?_
                          (case side1 => repeat (first | exact (Kd.R_reads' HO_13.out).2.2 | (with_reducible refine Kd.C_alloc ?_ _) | (with_reducible refine Kd.C_drewN ?_ _) | (with_reducible refine Kd.C_drew ?_)))
                          (case side2 => exact (Kd.R_reads' HO_13.out).2.1)
                          rintro e w' ⟨rfl, ⟨nd, rfl⟩⟩
                          refine ⟨_, rfl, ?_⟩
                          refine hK.out _ _ ⟨hHeld.1, hHeld.2.1, hHeld.2.2.1, hHeld.2.2.2⟩ (fun hHeld => ?_)
                          clear hK K
                          refine kM (a' := ?_) ?_ ?_
                          rotate_left
                          · show Act.put _ (some 86) _ = _
                            simp only [Act.put, List.setIfInBounds_toArray, List.set_cons_zero, List.set_cons_succ, iR, iT]
                            rfl
                          refine iZ (i := 29) (N := some 87) (v := ?_) (a' := ?_) #[true, true, true, true, true, true, true, true, true, true, true, true, true, true, true, true, true, true, true, true, true, true, true, true, true, true, true, true, true, true, false, false] rfl rfl (iQ HT_.out (by kernel_rfl)) (fun _ _ _ h => h) (Or.inl ⟨by rfl, ?_⟩) ?_ ?_
                          rotate_left
                          · intro w'
                            go_simp
                            with_reducible rfl
                          rotate_left
                          · simp only [Act.put, List.setIfInBounds_toArray, List.set_cons_zero, List.set_cons_succ, iR, iT]
                            rfl
                          refine iZ (i := 30) (N := some 88) (v := ?_) (a' := ?_) #[true, true, true, true, true, true, true, true, true, true, true, true, true, true, true, true, true, true, true, true, true, true, true, true, true, true, true, true, true, true, true, false] rfl rfl (iQ HT_.out (by kernel_rfl)) (fun _ _ _ h => h) (Or.inl ⟨by rfl, ?_⟩) ?_ ?_
                          rotate_left
                          · intro w'
                            go_simp
                            with_reducible rfl
                          rotate_left
                          · simp only [Act.put, List.setIfInBounds_toArray, List.set_cons_zero, List.set_cons_succ, iR, iT]
                            rfl
                          refine iZ (i := 31) (N := some 89) (v := ?_) (a' := ?_) #[true, true, true, true, true, true, true, true, true, true, true, true, true, true, true, true, true, true, true, true, true, true, true, true, true, true, true, true, true, true, true, true] rfl rfl (iQ HT_.out (by kernel_rfl)) (fun _ _ _ h => h) (Or.inl ⟨by rfl, ?_⟩) ?_ ?_
                          rotate_left
                          · intro w'
                            go_simp
                            with_reducible rfl
                          rotate_left
                          · simp only [Act.put, List.setIfInBounds_toArray, List.set_cons_zero, List.set_cons_succ, iR, iT]
                            rfl
                          refine lU (kL HT_.out (by kernel_rfl)) ?_
                          try go_wp2
                          go_roundg k1
                          case measure => have := HK1.out; omega
                          case rel => exact ⟨(wrap64 (x14_1 + 1)), (by first | rfl | (simp; done) | (simp [*]; done)), H', ⟨by have := HK1.out; omega⟩, ⟨by (with_reducible repeat (first | apply Kd.R_alloc | apply Kd.R_drewN | apply Kd.R_drew)); exact HO_11.out⟩, ⟨by (with_reducible repeat (first | apply Kd.R_alloc | apply Kd.R_drewN | apply Kd.R_drew)); exact HO_12.out⟩, ⟨by (with_reducible repeat (first | apply Kd.R_alloc | apply Kd.R_drewN | apply Kd.R_drew)); exact HO_13.out⟩, ⟨by (with_reducible repeat (first | apply Kd.R_alloc | apply Kd.R_drewN | apply Kd.R_drew)); exact HO_410001.out⟩, ⟨bk_ BK404.out⟩, ⟨bk_ BK409.out⟩, ⟨by repeat (first | (with_reducible first | exact HB.out | apply iF | apply iD | apply iG | refine iE ?_ GE404.out | refine iE ?_ GE409.out) | exact HB.out)⟩⟩
                        · replace c37 := Bool.eq_false_iff.mpr c37
                          subst c37
                          have H1 : (some false) = some r := by rw [if_neg (show ¬ (false = true) by decide)] at H; exact H
                          clear H
                          have H := H1
                          clear H1
                          obtain rfl := Option.some.inj H
                          obtain ⟨Ao42, co42, eo42⟩ := Kd.R_slice HO_11.out
                          subst eo42
                          try go_wp2
                          have n0_ := iC.mk (Kd.R_drew HO_11.out)
                          have n1_ := iC.mk (Kd.R_drew HO_12.out)
                          have n2_ := iC.mk (Kd.R_drew HO_13.out)
                          have n3_ := iC.mk (Kd.R_drew HO_410001.out)
                          have n4_ := iC.mk (iO BK404.out)
                          have n5_ := iC.mk (iO BK409.out)
                          have n6_ := iC.mk (iG HB.out)
                          clear HO_11
                          clear HO_12
                          clear HO_13
                          clear HO_410001
                          clear BK404
                          clear BK409
                          clear HB
                          have HO_11 := n0_
                          have HO_12 := n1_
                          have HO_13 := n2_
                          have HO_410001 := n3_
                          have BK404 := n4_
                          have BK409 := n5_
                          have HB := n6_
                          clear n0_ n1_ n2_ n3_ n4_ n5_ n6_
                          have p419 : 0 ≤ (x14_1 : Int) := of_decide_eq_true asm_
                          have q419 : x14_1 < (t410.length : Int) := of_decide_eq_true asm_
                          obtain ⟨ad419, e419, hx419_0⟩ := Kd.at_int (Kd.R_reads' HO_11.out).2.2 x14_1 p419 q419
                          cases e419
                          replace p419 := eq_true p419
                          replace q419 := eq_true q419
                          have p420 : 0 ≤ ((ji25) : Int) := of_decide_eq_true asm_
                          have q420 : (ji25) < (t410.length : Int) := of_decide_eq_true asm_
                          obtain ⟨ad420, e420, hx420_0⟩ := Kd.at_int (Kd.R_reads' HO_11.out).2.2 (ji25) p420 q420
                          obtain rfl : ad419 = ad420 := (by injection e420)
                          replace p420 := eq_true p420
                          replace q420 := eq_true q420
                          have p421 : 0 ≤ (x14_1 : Int) := of_decide_eq_true asm_
                          have q421 : x14_1 < (t410.length : Int) := of_decide_eq_true asm_
                          obtain ⟨ad421, e421, hx421_0⟩ := Kd.at_int (Kd.R_reads' HO_11.out).2.2 x14_1 p421 q421
                          obtain rfl : ad419 = ad421 := (by injection e421)
                          replace p421 := eq_true p421
                          replace q421 := eq_true q421
                          obtain ⟨Ao44, co44, eo44⟩ := Kd.R_slice HO_12.out
                          (first | subst eo44 | (injection eo44 with f1_ f2_ f3_; have f4_ := f1_.symm; have f5_ := f3_.symm; clear f1_ f2_ f3_; subst f4_; subst f5_))
                          have p423 : 0 ≤ (x14_1 : Int) := of_decide_eq_true asm_
                          have q423 : x14_1 < (t410.length : Int) := of_decide_eq_true asm_
                          obtain ⟨ad423, e423, hx423_0⟩ := Kd.at_int (Kd.R_reads' HO_11.out).2.2 x14_1 p423 q423
                          obtain rfl : ad419 = ad423 := (by injection e423)
                          replace p423 := eq_true p423
                          replace q423 := eq_true q423
                          refine kU (n := 32) (S := fun w' => w'.cell? (ad419.add (x14_1).toNat) = some (.int .i64 (rd t410 x14_1)) ∧ w'.cell? (ad419.add ((ji25)).toNat) = some (.int .i64 (rd t410 (ji25))) ∧ w'.cell? (ad419.add (x14_1).toNat) = some (.int .i64 (rd t410 x14_1)) ∧ w'.cell? (ad419.add (x14_1).toNat) = some (.int .i64 (rd t410 x14_1))) (ds := []) #[false, false, false, false, false, false, false, false, false, false, false, false, false, false, false, false, false, false, false, false, false, false, false, false, false, false, false, false, false, false, false, false] (by kernel_rfl) rfl rfl ⟨hx419_0, hx420_0, hx421_0, hx423_0⟩ (fun hHeld => ?_); refine jW stratumlaw12_SpansNodes.tab11 stratumlaw12_SpansNodes.bits11 (fun HT_ HW_ => ?_)
                          generalize wr.drew = w43 at HO_11 HO_12 HO_13 HO_410001 BK404 BK409 HB hx419_0 hx420_0 hx421_0 hx423_0 hHeld ⊢
                          refine iZ (i := 0) (N := some 58) (v := ?_) (a' := ?_) #[true, false, false, false, false, false, false, false, false, false, false, false, false, false, false, false, false, false, false, false, false, false, false, false, false, false, false, false, false, false, false, false] rfl rfl (iQ HT_.out (by kernel_rfl)) (fun _ _ _ h => h) (Or.inl ⟨by rfl, ?_⟩) ?_ ?_
                          rotate_left
                          · intro w'
                            go_simp
                            with_reducible rfl
                          rotate_left
                          · simp only [Act.put, List.setIfInBounds_toArray, List.set_cons_zero, List.set_cons_succ, iR, iT]
                            rfl
                          refine iZ (i := 1) (N := some 59) (v := ?_) (a' := ?_) #[true, true, false, false, false, false, false, false, false, false, false, false, false, false, false, false, false, false, false, false, false, false, false, false, false, false, false, false, false, false, false, false] rfl rfl (iQ HT_.out (by kernel_rfl)) (fun _ _ _ h => h) (Or.inl ⟨by rfl, ?_⟩) ?_ ?_
                          rotate_left
                          · intro w'
                            go_simp
                            with_reducible rfl
                          rotate_left
                          · simp only [Act.put, List.setIfInBounds_toArray, List.set_cons_zero, List.set_cons_succ, iR, iT]
                            rfl
                          refine iZ (i := 2) (N := some 60) (v := ?_) (a' := ?_) #[true, true, true, false, false, false, false, false, false, false, false, false, false, false, false, false, false, false, false, false, false, false, false, false, false, false, false, false, false, false, false, false] rfl rfl (iQ HT_.out (by kernel_rfl)) (fun _ _ _ h => h) (Or.inl ⟨by rfl, ?_⟩) ?_ ?_
                          rotate_left
                          · intro w'
                            go_simp
                            with_reducible rfl
                          rotate_left
                          · simp only [Act.put, List.setIfInBounds_toArray, List.set_cons_zero, List.set_cons_succ, iR, iT]
                            rfl
                          refine iZ (i := 3) (N := some 61) (v := ?_) (a' := ?_) #[true, true, true, true, false, false, false, false, false, false, false, false, false, false, false, false, false, false, false, false, false, false, false, false, false, false, false, false, false, false, false, false] rfl rfl (iQ HT_.out (by kernel_rfl)) (fun _ _ _ h => h) (Or.inl ⟨by rfl, ?_⟩) ?_ ?_
                          rotate_left
                          · intro w'
                            go_simp
                            with_reducible rfl
                          rotate_left
                          · simp only [Act.put, List.setIfInBounds_toArray, List.set_cons_zero, List.set_cons_succ, iR, iT]
                            rfl
                          refine iZ (i := 4) (N := some 62) (v := ?_) (a' := ?_) #[true, true, true, true, true, false, false, false, false, false, false, false, false, false, false, false, false, false, false, false, false, false, false, false, false, false, false, false, false, false, false, false] rfl rfl (iQ HT_.out (by kernel_rfl)) (fun _ _ _ h => h) (Or.inl ⟨by rfl, ?_⟩) ?_ ?_
                          rotate_left
                          · intro w'
                            go_simp
                            with_reducible rfl
                          rotate_left
                          · simp only [Act.put, List.setIfInBounds_toArray, List.set_cons_zero, List.set_cons_succ, iR, iT]
                            rfl
                          refine iZ (i := 5) (N := some 63) (v := ?_) (a' := ?_) #[true, true, true, true, true, true, false, false, false, false, false, false, false, false, false, false, false, false, false, false, false, false, false, false, false, false, false, false, false, false, false, false] rfl rfl (iQ HT_.out (by kernel_rfl)) (fun _ _ _ h => h) (Or.inl ⟨by rfl, ?_⟩) ?_ ?_
                          rotate_left
                          · intro w'
                            go_simp
                            with_reducible rfl
                          rotate_left
                          · simp only [Act.put, List.setIfInBounds_toArray, List.set_cons_zero, List.set_cons_succ, iR, iT]
                            rfl
                          refine iZ (i := 7) (N := some 65) (v := ?_) (a' := ?_) #[true, true, true, true, true, true, false, true, false, false, false, false, false, false, false, false, false, false, false, false, false, false, false, false, false, false, false, false, false, false, false, false] rfl rfl (iQ HT_.out (by kernel_rfl)) (fun _ _ _ h => h) (Or.inl ⟨by rfl, ?_⟩) ?_ ?_
                          rotate_left
                          · intro w'
                            go_simp
                            with_reducible rfl
                          rotate_left
                          · simp only [Act.put, List.setIfInBounds_toArray, List.set_cons_zero, List.set_cons_succ, iR, iT]
                            rfl
                          refine iZ (i := 8) (N := some 66) (v := ?_) (a' := ?_) #[true, true, true, true, true, true, false, true, true, false, false, false, false, false, false, false, false, false, false, false, false, false, false, false, false, false, false, false, false, false, false, false] rfl rfl (iQ HT_.out (by kernel_rfl)) (fun _ _ _ h => h) (Or.inl ⟨by rfl, ?_⟩) ?_ ?_
                          rotate_left
                          · intro w'
                            go_simp
                            with_reducible rfl
                          rotate_left
                          · simp only [Act.put, List.setIfInBounds_toArray, List.set_cons_zero, List.set_cons_succ, iR, iT]
                            rfl
                          refine iZ (i := 9) (N := some 67) (v := ?_) (a' := ?_) #[true, true, true, true, true, true, false, true, true, true, false, false, false, false, false, false, false, false, false, false, false, false, false, false, false, false, false, false, false, false, false, false] rfl rfl (iQ HT_.out (by kernel_rfl)) (fun _ _ _ h => h) (Or.inl ⟨by rfl, ?_⟩) ?_ ?_
                          rotate_left
                          · intro w'
                            go_simp
                            with_reducible rfl
                          rotate_left
                          · simp only [Act.put, List.setIfInBounds_toArray, List.set_cons_zero, List.set_cons_succ, iR, iT]
                            rfl
                          refine iZ (i := 10) (N := some 68) (v := ?_) (a' := ?_) #[true, true, true, true, true, true, false, true, true, true, true, false, false, false, false, false, false, false, false, false, false, false, false, false, false, false, false, false, false, false, false, false] rfl rfl (iQ HT_.out (by kernel_rfl)) (fun _ _ _ h => h) (Or.inl ⟨by rfl, ?_⟩) ?_ ?_
                          rotate_left
                          · intro w'
                            go_simp
                            with_reducible rfl
                          rotate_left
                          · simp only [Act.put, List.setIfInBounds_toArray, List.set_cons_zero, List.set_cons_succ, iR, iT]
                            rfl
                          refine take_ (i := 6) (N := some 64) (v := ?_) (a' := ?_) #[true, true, true, true, true, true, true, true, true, true, true, false, false, false, false, false, false, false, false, false, false, false, false, false, false, false, false, false, false, false, false, false] rfl rfl (jL HT_.out HW_.out (by kernel_rfl)) (fun _ _ _ h => h) (Or.inl ⟨by rfl, ?_⟩) hHeld ?_ ?_
                          rotate_left
                          · rintro w' ⟨s0, s1, s2, s3⟩
                            go_simp
                            with_reducible rfl
                          rotate_left
                          · simp only [Act.put, List.setIfInBounds_toArray, List.set_cons_zero, List.set_cons_succ, iR, iT]
                            rfl
                          refine take_ (i := 11) (N := some 69) (v := ?_) (a' := ?_) #[true, true, true, true, true, true, true, true, true, true, true, true, false, false, false, false, false, false, false, false, false, false, false, false, false, false, false, false, false, false, false, false] rfl rfl (jL HT_.out HW_.out (by kernel_rfl)) (fun _ _ _ h => h) (Or.inl ⟨by rfl, ?_⟩) hHeld ?_ ?_
                          rotate_left
                          · rintro w' ⟨s0, s1, s2, s3⟩
                            go_simp
                            with_reducible rfl
                          rotate_left
                          · simp only [Act.put, List.setIfInBounds_toArray, List.set_cons_zero, List.set_cons_succ, iR, iT]
                            rfl
                          refine iZ (i := 12) (N := some 70) (v := ?_) (a' := ?_) #[true, true, true, true, true, true, true, true, true, true, true, true, true, false, false, false, false, false, false, false, false, false, false, false, false, false, false, false, false, false, false, false] rfl rfl (iQ HT_.out (by kernel_rfl)) (fun _ _ _ h => h) (Or.inl ⟨by rfl, ?_⟩) ?_ ?_
                          rotate_left
                          · intro w'
                            go_simp
                            with_reducible rfl
                          rotate_left
                          · simp only [Act.put, List.setIfInBounds_toArray, List.set_cons_zero, List.set_cons_succ, iR, iT]
                            rfl
                          refine iZ (i := 13) (N := some 71) (v := ?_) (a' := ?_) #[true, true, true, true, true, true, true, true, true, true, true, true, true, true, false, false, false, false, false, false, false, false, false, false, false, false, false, false, false, false, false, false] rfl rfl (iQ HT_.out (by kernel_rfl)) (fun _ _ _ h => h) (Or.inl ⟨by rfl, ?_⟩) ?_ ?_
                          rotate_left
                          · intro w'
                            go_simp
                            with_reducible rfl
                          rotate_left
                          · simp only [Act.put, List.setIfInBounds_toArray, List.set_cons_zero, List.set_cons_succ, iR, iT]
                            rfl
                          refine iZ (i := 14) (N := some 72) (v := ?_) (a' := ?_) #[true, true, true, true, true, true, true, true, true, true, true, true, true, true, true, false, false, false, false, false, false, false, false, false, false, false, false, false, false, false, false, false] rfl rfl (iQ HT_.out (by kernel_rfl)) (fun _ _ _ h => h) (Or.inl ⟨by rfl, ?_⟩) ?_ ?_
                          rotate_left
                          · intro w'
                            go_simp
                            with_reducible rfl
                          rotate_left
                          · simp only [Act.put, List.setIfInBounds_toArray, List.set_cons_zero, List.set_cons_succ, iR, iT]
                            rfl
                          refine iZ (i := 15) (N := some 73) (v := ?_) (a' := ?_) #[true, true, true, true, true, true, true, true, true, true, true, true, true, true, true, true, false, false, false, false, false, false, false, false, false, false, false, false, false, false, false, false] rfl rfl (iQ HT_.out (by kernel_rfl)) (fun _ _ _ h => h) (Or.inl ⟨by rfl, ?_⟩) ?_ ?_
                          rotate_left
                          · intro w'
                            go_simp
                            with_reducible rfl
                          rotate_left
                          · simp only [Act.put, List.setIfInBounds_toArray, List.set_cons_zero, List.set_cons_succ, iR, iT]
                            rfl
                          refine iZ (i := 16) (N := some 74) (v := ?_) (a' := ?_) #[true, true, true, true, true, true, true, true, true, true, true, true, true, true, true, true, true, false, false, false, false, false, false, false, false, false, false, false, false, false, false, false] rfl rfl (iQ HT_.out (by kernel_rfl)) (fun _ _ _ h => h) (Or.inl ⟨by rfl, ?_⟩) ?_ ?_
                          rotate_left
                          · intro w'
                            go_simp
                            with_reducible rfl
                          rotate_left
                          · simp only [Act.put, List.setIfInBounds_toArray, List.set_cons_zero, List.set_cons_succ, iR, iT]
                            rfl
                          refine iZ (i := 17) (N := some 75) (v := ?_) (a' := ?_) #[true, true, true, true, true, true, true, true, true, true, true, true, true, true, true, true, true, true, false, false, false, false, false, false, false, false, false, false, false, false, false, false] rfl rfl (iQ HT_.out (by kernel_rfl)) (fun _ _ _ h => h) (Or.inl ⟨by rfl, ?_⟩) ?_ ?_
                          rotate_left
                          · intro w'
                            go_simp
                            with_reducible rfl
                          rotate_left
                          · simp only [Act.put, List.setIfInBounds_toArray, List.set_cons_zero, List.set_cons_succ, iR, iT]
                            rfl
                          refine iZ (i := 18) (N := some 76) (v := ?_) (a' := ?_) #[true, true, true, true, true, true, true, true, true, true, true, true, true, true, true, true, true, true, true, false, false, false, false, false, false, false, false, false, false, false, false, false] rfl rfl (iQ HT_.out (by kernel_rfl)) (fun _ _ _ h => h) (Or.inl ⟨by rfl, ?_⟩) ?_ ?_
                          rotate_left
                          · intro w'
                            go_simp
                            with_reducible rfl
                          rotate_left
                          · simp only [Act.put, List.setIfInBounds_toArray, List.set_cons_zero, List.set_cons_succ, iR, iT]
                            rfl
                          refine take_ (i := 19) (N := some 77) (v := ?_) (a' := ?_) #[true, true, true, true, true, true, true, true, true, true, true, true, true, true, true, true, true, true, true, true, false, false, false, false, false, false, false, false, false, false, false, false] rfl rfl (jL HT_.out HW_.out (by kernel_rfl)) (fun _ _ _ h => h) (Or.inl ⟨by rfl, ?_⟩) hHeld ?_ ?_
                          rotate_left
                          · rintro w' ⟨s0, s1, s2, s3⟩
                            go_simp
                            with_reducible rfl
                          rotate_left
                          · simp only [Act.put, List.setIfInBounds_toArray, List.set_cons_zero, List.set_cons_succ, iR, iT]
                            rfl
                          refine one_ (i := 20) (N := some 78) #[true, true, true, true, true, true, true, true, true, true, true, true, true, true, true, true, true, true, true, true, true, false, false, false, false, false, false, false, false, false, false, false] rfl rfl (kH HT_.out (by kernel_rfl)) (by decide) (fun K hK => ?_)
                          refine l9 Try.func32 (by kernel_rfl) rfl #[.slice Ao44 t413.length co44, .int .i64 (rd t410 x14_1)] (by rfl) rfl rfl (by (try simp only [List.map_toArray, List.map_cons, List.map_nil]); first | done | rfl | (simp only [List.length_drop, List.length_take]; rfl)) ?_
                          with_reducible refine (stratumlaw12_has.calls k1 _ _ t413 (rd t410 x14_1) false _ ?side1 ?side2 A31.out).mono ?_
                          (case side1 => repeat (first | exact (Kd.R_reads' HO_12.out).2.2 | (with_reducible refine Kd.C_alloc ?_ _) | (with_reducible refine Kd.C_drewN ?_ _) | (with_reducible refine Kd.C_drew ?_)))
                          (case side2 => exact (Kd.R_reads' HO_12.out).2.1)
                          rintro e w' ⟨rfl, ⟨nd, rfl⟩⟩
                          refine ⟨_, rfl, ?_⟩
                          obtain ⟨Ao45, co45, eo45⟩ := Kd.R_slice HO_13.out
                          (first | subst eo45 | (injection eo45 with f1_ f2_ f3_; have f4_ := f1_.symm; have f5_ := f3_.symm; clear f1_ f2_ f3_; subst f4_; subst f5_))
                          refine hK.out _ _ ⟨hHeld.1, hHeld.2.1, hHeld.2.2.1, hHeld.2.2.2⟩ (fun hHeld => ?_)
                          clear hK K
                          refine kM (a' := ?_) ?_ ?_
                          rotate_left
                          · show Act.put _ (some 78) _ = _
                            simp only [Act.put, List.setIfInBounds_toArray, List.set_cons_zero, List.set_cons_succ, iR, iT]
                            rfl
                          refine iZ (i := 21) (N := some 79) (v := ?_) (a' := ?_) #[true, true, true, true, true, true, true, true, true, true, true, true, true, true, true, true, true, true, true, true, true, true, false, false, false, false, false, false, false, false, false, false] rfl rfl (iQ HT_.out (by kernel_rfl)) (fun _ _ _ h => h) (Or.inl ⟨by rfl, ?_⟩) ?_ ?_
                          rotate_left
                          · intro w'
                            go_simp
                            with_reducible rfl
                          rotate_left
                          · simp only [Act.put, List.setIfInBounds_toArray, List.set_cons_zero, List.set_cons_succ, iR, iT]
                            rfl
                          refine iZ (i := 22) (N := some 80) (v := ?_) (a' := ?_) #[true, true, true, true, true, true, true, true, true, true, true, true, true, true, true, true, true, true, true, true, true, true, true, false, false, false, false, false, false, false, false, false] rfl rfl (iQ HT_.out (by kernel_rfl)) (fun _ _ _ h => h) (Or.inl ⟨by rfl, ?_⟩) ?_ ?_
                          rotate_left
                          · intro w'
                            go_simp
                            with_reducible rfl
                          rotate_left
                          · simp only [Act.put, List.setIfInBounds_toArray, List.set_cons_zero, List.set_cons_succ, iR, iT]
                            rfl
                          refine iZ (i := 23) (N := some 81) (v := ?_) (a' := ?_) #[true, true, true, true, true, true, true, true, true, true, true, true, true, true, true, true, true, true, true, true, true, true, true, true, false, false, false, false, false, false, false, false] rfl rfl (iQ HT_.out (by kernel_rfl)) (fun _ _ _ h => h) (Or.inl ⟨by rfl, ?_⟩) ?_ ?_
                          rotate_left
                          · intro w'
                            go_simp
                            with_reducible rfl
                          rotate_left
                          · simp only [Act.put, List.setIfInBounds_toArray, List.set_cons_zero, List.set_cons_succ, iR, iT]
                            rfl
                          refine iZ (i := 24) (N := some 82) (v := ?_) (a' := ?_) #[true, true, true, true, true, true, true, true, true, true, true, true, true, true, true, true, true, true, true, true, true, true, true, true, true, false, false, false, false, false, false, false] rfl rfl (iQ HT_.out (by kernel_rfl)) (fun _ _ _ h => h) (Or.inl ⟨by rfl, ?_⟩) ?_ ?_
                          rotate_left
                          · intro w'
                            go_simp
                            with_reducible rfl
                          rotate_left
                          · simp only [Act.put, List.setIfInBounds_toArray, List.set_cons_zero, List.set_cons_succ, iR, iT]
                            rfl
                          refine iZ (i := 25) (N := some 83) (v := ?_) (a' := ?_) #[true, true, true, true, true, true, true, true, true, true, true, true, true, true, true, true, true, true, true, true, true, true, true, true, true, true, false, false, false, false, false, false] rfl rfl (iQ HT_.out (by kernel_rfl)) (fun _ _ _ h => h) (Or.inl ⟨by rfl, ?_⟩) ?_ ?_
                          rotate_left
                          · intro w'
                            go_simp
                            with_reducible rfl
                          rotate_left
                          · simp only [Act.put, List.setIfInBounds_toArray, List.set_cons_zero, List.set_cons_succ, iR, iT]
                            rfl
                          refine iZ (i := 26) (N := some 84) (v := ?_) (a' := ?_) #[true, true, true, true, true, true, true, true, true, true, true, true, true, true, true, true, true, true, true, true, true, true, true, true, true, true, true, false, false, false, false, false] rfl rfl (iQ HT_.out (by kernel_rfl)) (fun _ _ _ h => h) (Or.inl ⟨by rfl, ?_⟩) ?_ ?_
                          rotate_left
                          · intro w'
                            go_simp
                            with_reducible rfl
                          rotate_left
                          · simp only [Act.put, List.setIfInBounds_toArray, List.set_cons_zero, List.set_cons_succ, iR, iT]
                            rfl
                          refine take_ (i := 27) (N := some 85) (v := ?_) (a' := ?_) #[true, true, true, true, true, true, true, true, true, true, true, true, true, true, true, true, true, true, true, true, true, true, true, true, true, true, true, true, false, false, false, false] rfl rfl (jL HT_.out HW_.out (by kernel_rfl)) (fun _ _ _ h => h) (Or.inl ⟨by rfl, ?_⟩) hHeld ?_ ?_
                          rotate_left
                          · rintro w' ⟨s0, s1, s2, s3⟩
                            go_simp
                            with_reducible rfl
                          rotate_left
                          · simp only [Act.put, List.setIfInBounds_toArray, List.set_cons_zero, List.set_cons_succ, iR, iT]
                            rfl
                          refine one_ (i := 28) (N := some 86) #[true, true, true, true, true, true, true, true, true, true, true, true, true, true, true, true, true, true, true, true, true, true, true, true, true, true, true, true, true, false, false, false] rfl rfl (kH HT_.out (by kernel_rfl)) (by decide) (fun K hK => ?_)
                          refine l9 Try.func32 (by kernel_rfl) rfl #[.slice Ao45 t416.length co45, .int .i64 (rd t410 x14_1)] (by rfl) rfl rfl (by (try simp only [List.map_toArray, List.map_cons, List.map_nil]); first | done | rfl | (simp only [List.length_drop, List.length_take]; rfl)) ?_
                          with_reducible refine (stratumlaw12_has.calls k1 _ _ t416 (rd t410 x14_1) false _ ?side1 ?side2 A36.out).mono ?_
                          (case side1 => repeat (first | exact (Kd.R_reads' HO_13.out).2.2 | (with_reducible refine Kd.C_alloc ?_ _) | (with_reducible refine Kd.C_drewN ?_ _) | (with_reducible refine Kd.C_drew ?_)))
                          (case side2 => exact (Kd.R_reads' HO_13.out).2.1)
                          rintro e w' ⟨rfl, ⟨nd, rfl⟩⟩
                          refine ⟨_, rfl, ?_⟩
                          refine hK.out _ _ ⟨hHeld.1, hHeld.2.1, hHeld.2.2.1, hHeld.2.2.2⟩ (fun hHeld => ?_)
                          clear hK K
                          refine kM (a' := ?_) ?_ ?_
                          rotate_left
                          · show Act.put _ (some 86) _ = _
                            simp only [Act.put, List.setIfInBounds_toArray, List.set_cons_zero, List.set_cons_succ, iR, iT]
                            rfl
                          refine iZ (i := 29) (N := some 87) (v := ?_) (a' := ?_) #[true, true, true, true, true, true, true, true, true, true, true, true, true, true, true, true, true, true, true, true, true, true, true, true, true, true, true, true, true, true, false, false] rfl rfl (iQ HT_.out (by kernel_rfl)) (fun _ _ _ h => h) (Or.inl ⟨by rfl, ?_⟩) ?_ ?_
                          rotate_left
                          · intro w'
                            go_simp
                            with_reducible rfl
                          rotate_left
                          · simp only [Act.put, List.setIfInBounds_toArray, List.set_cons_zero, List.set_cons_succ, iR, iT]
                            rfl
                          refine iZ (i := 30) (N := some 88) (v := ?_) (a' := ?_) #[true, true, true, true, true, true, true, true, true, true, true, true, true, true, true, true, true, true, true, true, true, true, true, true, true, true, true, true, true, true, true, false] rfl rfl (iQ HT_.out (by kernel_rfl)) (fun _ _ _ h => h) (Or.inl ⟨by rfl, ?_⟩) ?_ ?_
                          rotate_left
                          · intro w'
                            go_simp
                            with_reducible rfl
                          rotate_left
                          · simp only [Act.put, List.setIfInBounds_toArray, List.set_cons_zero, List.set_cons_succ, iR, iT]
                            rfl
                          refine iZ (i := 31) (N := some 89) (v := ?_) (a' := ?_) #[true, true, true, true, true, true, true, true, true, true, true, true, true, true, true, true, true, true, true, true, true, true, true, true, true, true, true, true, true, true, true, true] rfl rfl (iQ HT_.out (by kernel_rfl)) (fun _ _ _ h => h) (Or.inl ⟨by rfl, ?_⟩) ?_ ?_
                          rotate_left
                          · intro w'
                            go_simp
                            with_reducible rfl
                          rotate_left
                          · simp only [Act.put, List.setIfInBounds_toArray, List.set_cons_zero, List.set_cons_succ, iR, iT]
                            rfl
                          refine lU (kL HT_.out (by kernel_rfl)) ?_
                          try go_wp2
                          go_ret
                          exact ⟨by first | rfl | (simp [iU, iV] <;> rfl) | (simp only [← hji25]; first | rfl | (simp [iU, iV] <;> rfl)) | (simp [*, iU, iV] <;> rfl), by repeat (first | (with_reducible first | exact HB.out | apply iF | apply iD | apply iG | refine iE ?_ GE404.out | refine iE ?_ GE409.out) | exact HB.out)⟩
                  · rw [if_neg c27] at H
                    exact absurd H (by simp)
                · rw [if_neg c26] at H
                  exact absurd H (by simp)
              · rw [if_neg c24] at H
                exact absurd H (by simp)
            · rw [if_neg c23] at H
              have c23b0 : decide (0 < x14_1) = false := decide_eq_false c23
              clear c23
              by_cases c46 : 0 ≤ x14_1
              · rw [if_pos c46] at H
                have c46b0 : decide (0 ≤ x14_1) = true := decide_eq_true c46
                clear c46
                replace H := Option.bind_eq_some_iff.mp H
                obtain ⟨t426, A470, H⟩ := H
                replace H : (if t426 = true then (stratumlaw12_SpansNodes.l0 k1 (Int.tmod (wrap64 (a1_0)) 200) t410 t413 t416 (wrap64 (x14_1 + 1)) t405 t406) else ((stratumlaw12_has.f k1 t416 (rd t410 x14_1)).bind fun t428 => (if t428 = true then (stratumlaw12_SpansNodes.l0 k1 (Int.tmod (wrap64 (a1_0)) 200) t410 t413 t416 (wrap64 (x14_1 + 1)) t405 t406) else (some false)))) = some r := H
                have A47 := iC.mk A470
                clear A470
                by_cases c48 : t426 = true
                · subst c48
                  have H1 : (stratumlaw12_SpansNodes.l0 k1 (Int.tmod (wrap64 (a1_0)) 200) t410 t413 t416 (wrap64 (x14_1 + 1)) t405 t406) = some r := by rw [if_pos rfl] at H; exact H
                  clear H
                  have H := H1
                  clear H1
                  have H' := iC.mk H
                  clear H
                  obtain ⟨Ao49, co49, eo49⟩ := Kd.R_slice HO_11.out
                  subst eo49
                  try go_wp2
                  have n0_ := iC.mk (Kd.R_drew HO_11.out)
                  have n1_ := iC.mk (Kd.R_drew HO_12.out)
                  have n2_ := iC.mk (Kd.R_drew HO_13.out)
                  have n3_ := iC.mk (Kd.R_drew HO_410001.out)
                  have n4_ := iC.mk (iO BK404.out)
                  have n5_ := iC.mk (iO BK409.out)
                  have n6_ := iC.mk (iG HB.out)
                  clear HO_11
                  clear HO_12
                  clear HO_13
                  clear HO_410001
                  clear BK404
                  clear BK409
                  clear HB
                  have HO_11 := n0_
                  have HO_12 := n1_
                  have HO_13 := n2_
                  have HO_410001 := n3_
                  have BK404 := n4_
                  have BK409 := n5_
                  have HB := n6_
                  clear n0_ n1_ n2_ n3_ n4_ n5_ n6_
                  have p425 : 0 ≤ (x14_1 : Int) := of_decide_eq_true asm_
                  have q425 : x14_1 < (t410.length : Int) := of_decide_eq_true asm_
                  obtain ⟨ad425, e425, hx425_0⟩ := Kd.at_int (Kd.R_reads' HO_11.out).2.2 x14_1 p425 q425
                  cases e425
                  replace p425 := eq_true p425
                  replace q425 := eq_true q425
                  obtain ⟨Ao51, co51, eo51⟩ := Kd.R_slice HO_12.out
                  (first | subst eo51 | (injection eo51 with f1_ f2_ f3_; have f4_ := f1_.symm; have f5_ := f3_.symm; clear f1_ f2_ f3_; subst f4_; subst f5_))
                  refine kU (n := 32) (S := fun w' => w'.cell? (ad425.add (x14_1).toNat) = some (.int .i64 (rd t410 x14_1))) (ds := []) #[false, false, false, false, false, false, false, false, false, false, false, false, false, false, false, false, false, false, false, false, false, false, false, false, false, false, false, false, false, false, false, false] (by kernel_rfl) rfl rfl (hx425_0) (fun hHeld => ?_); refine jW stratumlaw12_SpansNodes.tab11 stratumlaw12_SpansNodes.bits11 (fun HT_ HW_ => ?_)
                  generalize wr.drew = w50 at HO_11 HO_12 HO_13 HO_410001 BK404 BK409 HB hx425_0 hHeld ⊢
                  refine iZ (i := 0) (N := some 58) (v := ?_) (a' := ?_) #[true, false, false, false, false, false, false, false, false, false, false, false, false, false, false, false, false, false, false, false, false, false, false, false, false, false, false, false, false, false, false, false] rfl rfl (iQ HT_.out (by kernel_rfl)) (fun _ _ _ h => h) (Or.inl ⟨by rfl, ?_⟩) ?_ ?_
                  rotate_left
                  · intro w'
                    go_simp
                    with_reducible rfl
                  rotate_left
                  · simp only [Act.put, List.setIfInBounds_toArray, List.set_cons_zero, List.set_cons_succ, iR, iT]
                    rfl
                  refine iZ (i := 1) (N := some 59) (v := ?_) (a' := ?_) #[true, true, false, false, false, false, false, false, false, false, false, false, false, false, false, false, false, false, false, false, false, false, false, false, false, false, false, false, false, false, false, false] rfl rfl (iQ HT_.out (by kernel_rfl)) (fun _ _ _ h => h) (Or.inl ⟨by rfl, ?_⟩) ?_ ?_
                  rotate_left
                  · intro w'
                    go_simp
                    with_reducible rfl
                  rotate_left
                  · simp only [Act.put, List.setIfInBounds_toArray, List.set_cons_zero, List.set_cons_succ, iR, iT]
                    rfl
                  refine iZ (i := 2) (N := some 60) (v := ?_) (a' := ?_) #[true, true, true, false, false, false, false, false, false, false, false, false, false, false, false, false, false, false, false, false, false, false, false, false, false, false, false, false, false, false, false, false] rfl rfl (iQ HT_.out (by kernel_rfl)) (fun _ _ _ h => h) (Or.inl ⟨by rfl, ?_⟩) ?_ ?_
                  rotate_left
                  · intro w'
                    go_simp
                    with_reducible rfl
                  rotate_left
                  · simp only [Act.put, List.setIfInBounds_toArray, List.set_cons_zero, List.set_cons_succ, iR, iT]
                    rfl
                  refine iZ (i := 3) (N := some 61) (v := undef) (a' := ?_) #[true, true, true, true, false, false, false, false, false, false, false, false, false, false, false, false, false, false, false, false, false, false, false, false, false, false, false, false, false, false, false, false] rfl rfl (iQ HT_.out (by kernel_rfl)) (fun _ _ _ h => h) (Or.inr ⟨by rfl, rfl⟩) ?_ ?_
                  rotate_left
                  · simp only [Act.put, List.setIfInBounds_toArray, List.set_cons_zero, List.set_cons_succ, iR, iT]
                    rfl
                  refine iZ (i := 4) (N := some 62) (v := undef) (a' := ?_) #[true, true, true, true, true, false, false, false, false, false, false, false, false, false, false, false, false, false, false, false, false, false, false, false, false, false, false, false, false, false, false, false] rfl rfl (iQ HT_.out (by kernel_rfl)) (fun _ _ _ h => h) (Or.inr ⟨by rfl, rfl⟩) ?_ ?_
                  rotate_left
                  · simp only [Act.put, List.setIfInBounds_toArray, List.set_cons_zero, List.set_cons_succ, iR, iT]
                    rfl
                  refine iZ (i := 5) (N := some 63) (v := undef) (a' := ?_) #[true, true, true, true, true, true, false, false, false, false, false, false, false, false, false, false, false, false, false, false, false, false, false, false, false, false, false, false, false, false, false, false] rfl rfl (iQ HT_.out (by kernel_rfl)) (fun _ _ _ h => h) (Or.inr ⟨by rfl, rfl⟩) ?_ ?_
                  rotate_left
                  · simp only [Act.put, List.setIfInBounds_toArray, List.set_cons_zero, List.set_cons_succ, iR, iT]
                    rfl
                  refine iZ (i := 6) (N := some 64) (v := undef) (a' := ?_) #[true, true, true, true, true, true, true, false, false, false, false, false, false, false, false, false, false, false, false, false, false, false, false, false, false, false, false, false, false, false, false, false] rfl rfl (iQ HT_.out (by kernel_rfl)) (fun _ _ _ h => h) (Or.inr ⟨by rfl, rfl⟩) ?_ ?_
                  rotate_left
                  · simp only [Act.put, List.setIfInBounds_toArray, List.set_cons_zero, List.set_cons_succ, iR, iT]
                    rfl
                  refine iZ (i := 7) (N := some 65) (v := undef) (a' := ?_) #[true, true, true, true, true, true, true, true, false, false, false, false, false, false, false, false, false, false, false, false, false, false, false, false, false, false, false, false, false, false, false, false] rfl rfl (iQ HT_.out (by kernel_rfl)) (fun _ _ _ h => h) (Or.inr ⟨by rfl, rfl⟩) ?_ ?_
                  rotate_left
                  · simp only [Act.put, List.setIfInBounds_toArray, List.set_cons_zero, List.set_cons_succ, iR, iT]
                    rfl
                  refine iZ (i := 8) (N := some 66) (v := undef) (a' := ?_) #[true, true, true, true, true, true, true, true, true, false, false, false, false, false, false, false, false, false, false, false, false, false, false, false, false, false, false, false, false, false, false, false] rfl rfl (iQ HT_.out (by kernel_rfl)) (fun _ _ _ h => h) (Or.inr ⟨by rfl, rfl⟩) ?_ ?_
                  rotate_left
                  · simp only [Act.put, List.setIfInBounds_toArray, List.set_cons_zero, List.set_cons_succ, iR, iT]
                    rfl
                  refine iZ (i := 9) (N := some 67) (v := undef) (a' := ?_) #[true, true, true, true, true, true, true, true, true, true, false, false, false, false, false, false, false, false, false, false, false, false, false, false, false, false, false, false, false, false, false, false] rfl rfl (iQ HT_.out (by kernel_rfl)) (fun _ _ _ h => h) (Or.inr ⟨by rfl, rfl⟩) ?_ ?_
                  rotate_left
                  · simp only [Act.put, List.setIfInBounds_toArray, List.set_cons_zero, List.set_cons_succ, iR, iT]
                    rfl
                  refine iZ (i := 10) (N := some 68) (v := undef) (a' := ?_) #[true, true, true, true, true, true, true, true, true, true, true, false, false, false, false, false, false, false, false, false, false, false, false, false, false, false, false, false, false, false, false, false] rfl rfl (iQ HT_.out (by kernel_rfl)) (fun _ _ _ h => h) (Or.inr ⟨by rfl, rfl⟩) ?_ ?_
                  rotate_left
                  · simp only [Act.put, List.setIfInBounds_toArray, List.set_cons_zero, List.set_cons_succ, iR, iT]
                    rfl
                  refine iZ (i := 11) (N := some 69) (v := undef) (a' := ?_) #[true, true, true, true, true, true, true, true, true, true, true, true, false, false, false, false, false, false, false, false, false, false, false, false, false, false, false, false, false, false, false, false] rfl rfl (iQ HT_.out (by kernel_rfl)) (fun _ _ _ h => h) (Or.inr ⟨by rfl, rfl⟩) ?_ ?_
                  rotate_left
                  · simp only [Act.put, List.setIfInBounds_toArray, List.set_cons_zero, List.set_cons_succ, iR, iT]
                    rfl
                  refine iZ (i := 12) (N := some 70) (v := undef) (a' := ?_) #[true, true, true, true, true, true, true, true, true, true, true, true, true, false, false, false, false, false, false, false, false, false, false, false, false, false, false, false, false, false, false, false] rfl rfl (iQ HT_.out (by kernel_rfl)) (fun _ _ _ h => h) (Or.inr ⟨by rfl, rfl⟩) ?_ ?_
                  rotate_left
                  · simp only [Act.put, List.setIfInBounds_toArray, List.set_cons_zero, List.set_cons_succ, iR, iT]
                    rfl
                  refine iZ (i := 13) (N := some 71) (v := ?_) (a' := ?_) #[true, true, true, true, true, true, true, true, true, true, true, true, true, true, false, false, false, false, false, false, false, false, false, false, false, false, false, false, false, false, false, false] rfl rfl (iQ HT_.out (by kernel_rfl)) (fun _ _ _ h => h) (Or.inl ⟨by rfl, ?_⟩) ?_ ?_
                  rotate_left
                  · intro w'
                    go_simp
                    with_reducible rfl
                  rotate_left
                  · simp only [Act.put, List.setIfInBounds_toArray, List.set_cons_zero, List.set_cons_succ, iR, iT]
                    rfl
                  refine iZ (i := 14) (N := some 72) (v := ?_) (a' := ?_) #[true, true, true, true, true, true, true, true, true, true, true, true, true, true, true, false, false, false, false, false, false, false, false, false, false, false, false, false, false, false, false, false] rfl rfl (iQ HT_.out (by kernel_rfl)) (fun _ _ _ h => h) (Or.inl ⟨by rfl, ?_⟩) ?_ ?_
                  rotate_left
                  · intro w'
                    go_simp
                    with_reducible rfl
                  rotate_left
                  · simp only [Act.put, List.setIfInBounds_toArray, List.set_cons_zero, List.set_cons_succ, iR, iT]
                    rfl
                  refine iZ (i := 15) (N := some 73) (v := ?_) (a' := ?_) #[true, true, true, true, true, true, true, true, true, true, true, true, true, true, true, true, false, false, false, false, false, false, false, false, false, false, false, false, false, false, false, false] rfl rfl (iQ HT_.out (by kernel_rfl)) (fun _ _ _ h => h) (Or.inl ⟨by rfl, ?_⟩) ?_ ?_
                  rotate_left
                  · intro w'
                    go_simp
                    with_reducible rfl
                  rotate_left
                  · simp only [Act.put, List.setIfInBounds_toArray, List.set_cons_zero, List.set_cons_succ, iR, iT]
                    rfl
                  refine iZ (i := 16) (N := some 74) (v := ?_) (a' := ?_) #[true, true, true, true, true, true, true, true, true, true, true, true, true, true, true, true, true, false, false, false, false, false, false, false, false, false, false, false, false, false, false, false] rfl rfl (iQ HT_.out (by kernel_rfl)) (fun _ _ _ h => h) (Or.inl ⟨by rfl, ?_⟩) ?_ ?_
                  rotate_left
                  · intro w'
                    go_simp
                    with_reducible rfl
                  rotate_left
                  · simp only [Act.put, List.setIfInBounds_toArray, List.set_cons_zero, List.set_cons_succ, iR, iT]
                    rfl
                  refine iZ (i := 17) (N := some 75) (v := ?_) (a' := ?_) #[true, true, true, true, true, true, true, true, true, true, true, true, true, true, true, true, true, true, false, false, false, false, false, false, false, false, false, false, false, false, false, false] rfl rfl (iQ HT_.out (by kernel_rfl)) (fun _ _ _ h => h) (Or.inl ⟨by rfl, ?_⟩) ?_ ?_
                  rotate_left
                  · intro w'
                    go_simp
                    with_reducible rfl
                  rotate_left
                  · simp only [Act.put, List.setIfInBounds_toArray, List.set_cons_zero, List.set_cons_succ, iR, iT]
                    rfl
                  refine iZ (i := 18) (N := some 76) (v := ?_) (a' := ?_) #[true, true, true, true, true, true, true, true, true, true, true, true, true, true, true, true, true, true, true, false, false, false, false, false, false, false, false, false, false, false, false, false] rfl rfl (iQ HT_.out (by kernel_rfl)) (fun _ _ _ h => h) (Or.inl ⟨by rfl, ?_⟩) ?_ ?_
                  rotate_left
                  · intro w'
                    go_simp
                    with_reducible rfl
                  rotate_left
                  · simp only [Act.put, List.setIfInBounds_toArray, List.set_cons_zero, List.set_cons_succ, iR, iT]
                    rfl
                  refine take_ (i := 19) (N := some 77) (v := ?_) (a' := ?_) #[true, true, true, true, true, true, true, true, true, true, true, true, true, true, true, true, true, true, true, true, false, false, false, false, false, false, false, false, false, false, false, false] rfl rfl (jL HT_.out HW_.out (by kernel_rfl)) (fun _ _ _ h => h) (Or.inl ⟨by rfl, ?_⟩) hHeld ?_ ?_
                  rotate_left
                  · intro w' s0
                    go_simp
                    with_reducible rfl
                  rotate_left
                  · simp only [Act.put, List.setIfInBounds_toArray, List.set_cons_zero, List.set_cons_succ, iR, iT]
                    rfl
                  refine one_ (i := 20) (N := some 78) #[true, true, true, true, true, true, true, true, true, true, true, true, true, true, true, true, true, true, true, true, true, false, false, false, false, false, false, false, false, false, false, false] rfl rfl (kH HT_.out (by kernel_rfl)) (by decide) (fun K hK => ?_)
                  refine l9 Try.func32 (by kernel_rfl) rfl #[.slice Ao51 t413.length co51, .int .i64 (rd t410 x14_1)] (by rfl) rfl rfl (by (try simp only [List.map_toArray, List.map_cons, List.map_nil]); first | done | rfl | (simp only [List.length_drop, List.length_take]; rfl)) ?_
                  with_reducible refine (stratumlaw12_has.calls k1 _ _ t413 (rd t410 x14_1) true _ ?side1 ?side2 A47.out).mono ?_
                  (case side1 => repeat (first | exact (Kd.R_reads' HO_12.out).2.2 | (with_reducible refine Kd.C_alloc ?_ _) | (with_reducible refine Kd.C_drewN ?_ _) | (with_reducible refine Kd.C_drew ?_)))
                  (case side2 => exact (Kd.R_reads' HO_12.out).2.1)
                  rintro e w' ⟨rfl, ⟨nd, rfl⟩⟩
                  refine ⟨_, rfl, ?_⟩
                  refine hK.out _ _ (hHeld) (fun hHeld => ?_)
                  clear hK K
                  refine kM (a' := ?_) ?_ ?_
                  rotate_left
                  · show Act.put _ (some 78) _ = _
                    simp only [Act.put, List.setIfInBounds_toArray, List.set_cons_zero, List.set_cons_succ, iR, iT]
                    rfl
                  refine iZ (i := 21) (N := some 79) (v := ?_) (a' := ?_) #[true, true, true, true, true, true, true, true, true, true, true, true, true, true, true, true, true, true, true, true, true, true, false, false, false, false, false, false, false, false, false, false] rfl rfl (iQ HT_.out (by kernel_rfl)) (fun _ _ _ h => h) (Or.inl ⟨by rfl, ?_⟩) ?_ ?_
                  rotate_left
                  · intro w'
                    go_simp
                    with_reducible rfl
                  rotate_left
                  · simp only [Act.put, List.setIfInBounds_toArray, List.set_cons_zero, List.set_cons_succ, iR, iT]
                    rfl
                  refine iZ (i := 22) (N := some 80) (v := ?_) (a' := ?_) #[true, true, true, true, true, true, true, true, true, true, true, true, true, true, true, true, true, true, true, true, true, true, true, false, false, false, false, false, false, false, false, false] rfl rfl (iQ HT_.out (by kernel_rfl)) (fun _ _ _ h => h) (Or.inl ⟨by rfl, ?_⟩) ?_ ?_
                  rotate_left
                  · intro w'
                    go_simp
                    with_reducible rfl
                  rotate_left
                  · simp only [Act.put, List.setIfInBounds_toArray, List.set_cons_zero, List.set_cons_succ, iR, iT]
                    rfl
                  refine iZ (i := 23) (N := some 81) (v := undef) (a' := ?_) #[true, true, true, true, true, true, true, true, true, true, true, true, true, true, true, true, true, true, true, true, true, true, true, true, false, false, false, false, false, false, false, false] rfl rfl (iQ HT_.out (by kernel_rfl)) (fun _ _ _ h => h) (Or.inr ⟨by rfl, rfl⟩) ?_ ?_
                  rotate_left
                  · simp only [Act.put, List.setIfInBounds_toArray, List.set_cons_zero, List.set_cons_succ, iR, iT]
                    rfl
                  refine iZ (i := 24) (N := some 82) (v := undef) (a' := ?_) #[true, true, true, true, true, true, true, true, true, true, true, true, true, true, true, true, true, true, true, true, true, true, true, true, true, false, false, false, false, false, false, false] rfl rfl (iQ HT_.out (by kernel_rfl)) (fun _ _ _ h => h) (Or.inr ⟨by rfl, rfl⟩) ?_ ?_
                  rotate_left
                  · simp only [Act.put, List.setIfInBounds_toArray, List.set_cons_zero, List.set_cons_succ, iR, iT]
                    rfl
                  refine iZ (i := 25) (N := some 83) (v := undef) (a' := ?_) #[true, true, true, true, true, true, true, true, true, true, true, true, true, true, true, true, true, true, true, true, true, true, true, true, true, true, false, false, false, false, false, false] rfl rfl (iQ HT_.out (by kernel_rfl)) (fun _ _ _ h => h) (Or.inr ⟨by rfl, rfl⟩) ?_ ?_
                  rotate_left
                  · simp only [Act.put, List.setIfInBounds_toArray, List.set_cons_zero, List.set_cons_succ, iR, iT]
                    rfl
                  refine iZ (i := 26) (N := some 84) (v := undef) (a' := ?_) #[true, true, true, true, true, true, true, true, true, true, true, true, true, true, true, true, true, true, true, true, true, true, true, true, true, true, true, false, false, false, false, false] rfl rfl (iQ HT_.out (by kernel_rfl)) (fun _ _ _ h => h) (Or.inr ⟨by rfl, rfl⟩) ?_ ?_
                  rotate_left
                  · simp only [Act.put, List.setIfInBounds_toArray, List.set_cons_zero, List.set_cons_succ, iR, iT]
                    rfl
                  refine iZ (i := 27) (N := some 85) (v := undef) (a' := ?_) #[true, true, true, true, true, true, true, true, true, true, true, true, true, true, true, true, true, true, true, true, true, true, true, true, true, true, true, true, false, false, false, false] rfl rfl (iQ HT_.out (by kernel_rfl)) (fun _ _ _ h => h) (Or.inr ⟨by rfl, rfl⟩) ?_ ?_
                  rotate_left
                  · simp only [Act.put, List.setIfInBounds_toArray, List.set_cons_zero, List.set_cons_succ, iR, iT]
                    rfl
                  refine iZ (i := 28) (N := some 86) (v := undef) (a' := ?_) #[true, true, true, true, true, true, true, true, true, true, true, true, true, true, true, true, true, true, true, true, true, true, true, true, true, true, true, true, true, false, false, false] rfl rfl (iQ HT_.out (by kernel_rfl)) (fun _ _ _ h => h) (Or.inr ⟨by rfl, rfl⟩) ?_ ?_
                  rotate_left
                  · simp only [Act.put, List.setIfInBounds_toArray, List.set_cons_zero, List.set_cons_succ, iR, iT]
                    rfl
                  refine iZ (i := 29) (N := some 87) (v := undef) (a' := ?_) #[true, true, true, true, true, true, true, true, true, true, true, true, true, true, true, true, true, true, true, true, true, true, true, true, true, true, true, true, true, true, false, false] rfl rfl (iQ HT_.out (by kernel_rfl)) (fun _ _ _ h => h) (Or.inr ⟨by rfl, rfl⟩) ?_ ?_
                  rotate_left
                  · simp only [Act.put, List.setIfInBounds_toArray, List.set_cons_zero, List.set_cons_succ, iR, iT]
                    rfl
                  refine iZ (i := 30) (N := some 88) (v := ?_) (a' := ?_) #[true, true, true, true, true, true, true, true, true, true, true, true, true, true, true, true, true, true, true, true, true, true, true, true, true, true, true, true, true, true, true, false] rfl rfl (iQ HT_.out (by kernel_rfl)) (fun _ _ _ h => h) (Or.inl ⟨by rfl, ?_⟩) ?_ ?_
                  rotate_left
                  · intro w'
                    go_simp
                    with_reducible rfl
                  rotate_left
                  · simp only [Act.put, List.setIfInBounds_toArray, List.set_cons_zero, List.set_cons_succ, iR, iT]
                    rfl
                  refine iZ (i := 31) (N := some 89) (v := ?_) (a' := ?_) #[true, true, true, true, true, true, true, true, true, true, true, true, true, true, true, true, true, true, true, true, true, true, true, true, true, true, true, true, true, true, true, true] rfl rfl (iQ HT_.out (by kernel_rfl)) (fun _ _ _ h => h) (Or.inl ⟨by rfl, ?_⟩) ?_ ?_
                  rotate_left
                  · intro w'
                    go_simp
                    with_reducible rfl
                  rotate_left
                  · simp only [Act.put, List.setIfInBounds_toArray, List.set_cons_zero, List.set_cons_succ, iR, iT]
                    rfl
                  refine lU (kL HT_.out (by kernel_rfl)) ?_
                  try go_wp2
                  go_roundg k1
                  case measure => have := HK1.out; omega
                  case rel => exact ⟨(wrap64 (x14_1 + 1)), (by first | rfl | (simp; done) | (simp [*]; done)), H', ⟨by have := HK1.out; omega⟩, ⟨by (with_reducible repeat (first | apply Kd.R_alloc | apply Kd.R_drewN | apply Kd.R_drew)); exact HO_11.out⟩, ⟨by (with_reducible repeat (first | apply Kd.R_alloc | apply Kd.R_drewN | apply Kd.R_drew)); exact HO_12.out⟩, ⟨by (with_reducible repeat (first | apply Kd.R_alloc | apply Kd.R_drewN | apply Kd.R_drew)); exact HO_13.out⟩, ⟨by (with_reducible repeat (first | apply Kd.R_alloc | apply Kd.R_drewN | apply Kd.R_drew)); exact HO_410001.out⟩, ⟨bk_ BK404.out⟩, ⟨bk_ BK409.out⟩, ⟨by repeat (first | (with_reducible first | exact HB.out | apply iF | apply iD | apply iG | refine iE ?_ GE404.out | refine iE ?_ GE409.out) | exact HB.out)⟩⟩
                · replace c48 := Bool.eq_false_iff.mpr c48
                  subst c48
                  have H1 : ((stratumlaw12_has.f k1 t416 (rd t410 x14_1)).bind fun t428 => (if t428 = true then (stratumlaw12_SpansNodes.l0 k1 (Int.tmod (wrap64 (a1_0)) 200) t410 t413 t416 (wrap64 (x14_1 + 1)) t405 t406) else (some false))) = some r := by rw [if_neg (show ¬ (false = true) by decide)] at H; exact H
                  clear H
                  have H := H1
                  clear H1
                  replace H := Option.bind_eq_some_iff.mp H
                  obtain ⟨t428, A520, H⟩ := H
                  replace H : (if t428 = true then (stratumlaw12_SpansNodes.l0 k1 (Int.tmod (wrap64 (a1_0)) 200) t410 t413 t416 (wrap64 (x14_1 + 1)) t405 t406) else (some false)) = some r := H
                  have A52 := iC.mk A520
                  clear A520
                  by_cases c53 : t428 = true
                  · subst c53
                    have H1 : (stratumlaw12_SpansNodes.l0 k1 (Int.tmod (wrap64 (a1_0)) 200) t410 t413 t416 (wrap64 (x14_1 + 1)) t405 t406) = some r := by rw [if_pos rfl] at H; exact H
                    clear H
                    have H := H1
                    clear H1
                    have H' := iC.mk H
                    clear H
                    obtain ⟨Ao54, co54, eo54⟩ := Kd.R_slice HO_11.out
                    subst eo54
                    try go_wp2
                    have n0_ := iC.mk (Kd.R_drew HO_11.out)
                    have n1_ := iC.mk (Kd.R_drew HO_12.out)
                    have n2_ := iC.mk (Kd.R_drew HO_13.out)
                    have n3_ := iC.mk (Kd.R_drew HO_410001.out)
                    have n4_ := iC.mk (iO BK404.out)
                    have n5_ := iC.mk (iO BK409.out)
                    have n6_ := iC.mk (iG HB.out)
                    clear HO_11
                    clear HO_12
                    clear HO_13
                    clear HO_410001
                    clear BK404
                    clear BK409
                    clear HB
                    have HO_11 := n0_
                    have HO_12 := n1_
                    have HO_13 := n2_
                    have HO_410001 := n3_
                    have BK404 := n4_
                    have BK409 := n5_
                    have HB := n6_
                    clear n0_ n1_ n2_ n3_ n4_ n5_ n6_
                    have p425 : 0 ≤ (x14_1 : Int) := of_decide_eq_true asm_
                    have q425 : x14_1 < (t410.length : Int) := of_decide_eq_true asm_
                    obtain ⟨ad425, e425, hx425_0⟩ := Kd.at_int (Kd.R_reads' HO_11.out).2.2 x14_1 p425 q425
                    cases e425
                    replace p425 := eq_true p425
                    replace q425 := eq_true q425
                    obtain ⟨Ao56, co56, eo56⟩ := Kd.R_slice HO_12.out
                    (first | subst eo56 | (injection eo56 with f1_ f2_ f3_; have f4_ := f1_.symm; have f5_ := f3_.symm; clear f1_ f2_ f3_; subst f4_; subst f5_))
                    have p427 : 0 ≤ (x14_1 : Int) := of_decide_eq_true asm_
                    have q427 : x14_1 < (t410.length : Int) := of_decide_eq_true asm_
                    obtain ⟨ad427, e427, hx427_0⟩ := Kd.at_int (Kd.R_reads' HO_11.out).2.2 x14_1 p427 q427
                    obtain rfl : ad425 = ad427 := (by injection e427)
                    replace p427 := eq_true p427
                    replace q427 := eq_true q427
                    refine kU (n := 32) (S := fun w' => w'.cell? (ad425.add (x14_1).toNat) = some (.int .i64 (rd t410 x14_1)) ∧ w'.cell? (ad425.add (x14_1).toNat) = some (.int .i64 (rd t410 x14_1))) (ds := []) #[false, false, false, false, false, false, false, false, false, false, false, false, false, false, false, false, false, false, false, false, false, false, false, false, false, false, false, false, false, false, false, false] (by kernel_rfl) rfl rfl ⟨hx425_0, hx427_0⟩ (fun hHeld => ?_); refine jW stratumlaw12_SpansNodes.tab11 stratumlaw12_SpansNodes.bits11 (fun HT_ HW_ => ?_)
                    generalize wr.drew = w55 at HO_11 HO_12 HO_13 HO_410001 BK404 BK409 HB hx425_0 hx427_0 hHeld ⊢
                    refine iZ (i := 0) (N := some 58) (v := ?_) (a' := ?_) #[true, false, false, false, false, false, false, false, false, false, false, false, false, false, false, false, false, false, false, false, false, false, false, false, false, false, false, false, false, false, false, false] rfl rfl (iQ HT_.out (by kernel_rfl)) (fun _ _ _ h => h) (Or.inl ⟨by rfl, ?_⟩) ?_ ?_
                    rotate_left
                    · intro w'
                      go_simp
                      with_reducible rfl
                    rotate_left
                    · simp only [Act.put, List.setIfInBounds_toArray, List.set_cons_zero, List.set_cons_succ, iR, iT]
                      rfl
                    refine iZ (i := 1) (N := some 59) (v := ?_) (a' := ?_) #[true, true, false, false, false, false, false, false, false, false, false, false, false, false, false, false, false, false, false, false, false, false, false, false, false, false, false, false, false, false, false, false] rfl rfl (iQ HT_.out (by kernel_rfl)) (fun _ _ _ h => h) (Or.inl ⟨by rfl, ?_⟩) ?_ ?_
                    rotate_left
                    · intro w'
                      go_simp
                      with_reducible rfl
                    rotate_left
                    · simp only [Act.put, List.setIfInBounds_toArray, List.set_cons_zero, List.set_cons_succ, iR, iT]
                      rfl
                    refine iZ (i := 2) (N := some 60) (v := ?_) (a' := ?_) #[true, true, true, false, false, false, false, false, false, false, false, false, false, false, false, false, false, false, false, false, false, false, false, false, false, false, false, false, false, false, false, false] rfl rfl (iQ HT_.out (by kernel_rfl)) (fun _ _ _ h => h) (Or.inl ⟨by rfl, ?_⟩) ?_ ?_
                    rotate_left
                    · intro w'
                      go_simp
                      with_reducible rfl
                    rotate_left
                    · simp only [Act.put, List.setIfInBounds_toArray, List.set_cons_zero, List.set_cons_succ, iR, iT]
                      rfl
                    refine iZ (i := 3) (N := some 61) (v := undef) (a' := ?_) #[true, true, true, true, false, false, false, false, false, false, false, false, false, false, false, false, false, false, false, false, false, false, false, false, false, false, false, false, false, false, false, false] rfl rfl (iQ HT_.out (by kernel_rfl)) (fun _ _ _ h => h) (Or.inr ⟨by rfl, rfl⟩) ?_ ?_
                    rotate_left
                    · simp only [Act.put, List.setIfInBounds_toArray, List.set_cons_zero, List.set_cons_succ, iR, iT]
                      rfl
                    refine iZ (i := 4) (N := some 62) (v := undef) (a' := ?_) #[true, true, true, true, true, false, false, false, false, false, false, false, false, false, false, false, false, false, false, false, false, false, false, false, false, false, false, false, false, false, false, false] rfl rfl (iQ HT_.out (by kernel_rfl)) (fun _ _ _ h => h) (Or.inr ⟨by rfl, rfl⟩) ?_ ?_
                    rotate_left
                    · simp only [Act.put, List.setIfInBounds_toArray, List.set_cons_zero, List.set_cons_succ, iR, iT]
                      rfl
                    refine iZ (i := 5) (N := some 63) (v := undef) (a' := ?_) #[true, true, true, true, true, true, false, false, false, false, false, false, false, false, false, false, false, false, false, false, false, false, false, false, false, false, false, false, false, false, false, false] rfl rfl (iQ HT_.out (by kernel_rfl)) (fun _ _ _ h => h) (Or.inr ⟨by rfl, rfl⟩) ?_ ?_
                    rotate_left
                    · simp only [Act.put, List.setIfInBounds_toArray, List.set_cons_zero, List.set_cons_succ, iR, iT]
                      rfl
                    refine iZ (i := 6) (N := some 64) (v := undef) (a' := ?_) #[true, true, true, true, true, true, true, false, false, false, false, false, false, false, false, false, false, false, false, false, false, false, false, false, false, false, false, false, false, false, false, false] rfl rfl (iQ HT_.out (by kernel_rfl)) (fun _ _ _ h => h) (Or.inr ⟨by rfl, rfl⟩) ?_ ?_
                    rotate_left
                    · simp only [Act.put, List.setIfInBounds_toArray, List.set_cons_zero, List.set_cons_succ, iR, iT]
                      rfl
                    refine iZ (i := 7) (N := some 65) (v := undef) (a' := ?_) #[true, true, true, true, true, true, true, true, false, false, false, false, false, false, false, false, false, false, false, false, false, false, false, false, false, false, false, false, false, false, false, false] rfl rfl (iQ HT_.out (by kernel_rfl)) (fun _ _ _ h => h) (Or.inr ⟨by rfl, rfl⟩) ?_ ?_
                    rotate_left
                    · simp only [Act.put, List.setIfInBounds_toArray, List.set_cons_zero, List.set_cons_succ, iR, iT]
                      rfl
                    refine iZ (i := 8) (N := some 66) (v := undef) (a' := ?_) #[true, true, true, true, true, true, true, true, true, false, false, false, false, false, false, false, false, false, false, false, false, false, false, false, false, false, false, false, false, false, false, false] rfl rfl (iQ HT_.out (by kernel_rfl)) (fun _ _ _ h => h) (Or.inr ⟨by rfl, rfl⟩) ?_ ?_
                    rotate_left
                    · simp only [Act.put, List.setIfInBounds_toArray, List.set_cons_zero, List.set_cons_succ, iR, iT]
                      rfl
                    refine iZ (i := 9) (N := some 67) (v := undef) (a' := ?_) #[true, true, true, true, true, true, true, true, true, true, false, false, false, false, false, false, false, false, false, false, false, false, false, false, false, false, false, false, false, false, false, false] rfl rfl (iQ HT_.out (by kernel_rfl)) (fun _ _ _ h => h) (Or.inr ⟨by rfl, rfl⟩) ?_ ?_
                    rotate_left
                    · simp only [Act.put, List.setIfInBounds_toArray, List.set_cons_zero, List.set_cons_succ, iR, iT]
                      rfl
                    refine iZ (i := 10) (N := some 68) (v := undef) (a' := ?_) #[true, true, true, true, true, true, true, true, true, true, true, false, false, false, false, false, false, false, false, false, false, false, false, false, false, false, false, false, false, false, false, false] rfl rfl (iQ HT_.out (by kernel_rfl)) (fun _ _ _ h => h) (Or.inr ⟨by rfl, rfl⟩) ?_ ?_
                    rotate_left
                    · simp only [Act.put, List.setIfInBounds_toArray, List.set_cons_zero, List.set_cons_succ, iR, iT]
                      rfl
                    refine iZ (i := 11) (N := some 69) (v := undef) (a' := ?_) #[true, true, true, true, true, true, true, true, true, true, true, true, false, false, false, false, false, false, false, false, false, false, false, false, false, false, false, false, false, false, false, false] rfl rfl (iQ HT_.out (by kernel_rfl)) (fun _ _ _ h => h) (Or.inr ⟨by rfl, rfl⟩) ?_ ?_
                    rotate_left
                    · simp only [Act.put, List.setIfInBounds_toArray, List.set_cons_zero, List.set_cons_succ, iR, iT]
                      rfl
                    refine iZ (i := 12) (N := some 70) (v := undef) (a' := ?_) #[true, true, true, true, true, true, true, true, true, true, true, true, true, false, false, false, false, false, false, false, false, false, false, false, false, false, false, false, false, false, false, false] rfl rfl (iQ HT_.out (by kernel_rfl)) (fun _ _ _ h => h) (Or.inr ⟨by rfl, rfl⟩) ?_ ?_
                    rotate_left
                    · simp only [Act.put, List.setIfInBounds_toArray, List.set_cons_zero, List.set_cons_succ, iR, iT]
                      rfl
                    refine iZ (i := 13) (N := some 71) (v := ?_) (a' := ?_) #[true, true, true, true, true, true, true, true, true, true, true, true, true, true, false, false, false, false, false, false, false, false, false, false, false, false, false, false, false, false, false, false] rfl rfl (iQ HT_.out (by kernel_rfl)) (fun _ _ _ h => h) (Or.inl ⟨by rfl, ?_⟩) ?_ ?_
                    rotate_left
                    · intro w'
                      go_simp
                      with_reducible rfl
                    rotate_left
                    · simp only [Act.put, List.setIfInBounds_toArray, List.set_cons_zero, List.set_cons_succ, iR, iT]
                      rfl
                    refine iZ (i := 14) (N := some 72) (v := ?_) (a' := ?_) #[true, true, true, true, true, true, true, true, true, true, true, true, true, true, true, false, false, false, false, false, false, false, false, false, false, false, false, false, false, false, false, false] rfl rfl (iQ HT_.out (by kernel_rfl)) (fun _ _ _ h => h) (Or.inl ⟨by rfl, ?_⟩) ?_ ?_
                    rotate_left
                    · intro w'
                      go_simp
                      with_reducible rfl
                    rotate_left
                    · simp only [Act.put, List.setIfInBounds_toArray, List.set_cons_zero, List.set_cons_succ, iR, iT]
                      rfl
                    refine iZ (i := 15) (N := some 73) (v := ?_) (a' := ?_) #[true, true, true, true, true, true, true, true, true, true, true, true, true, true, true, true, false, false, false, false, false, false, false, false, false, false, false, false, false, false, false, false] rfl rfl (iQ HT_.out (by kernel_rfl)) (fun _ _ _ h => h) (Or.inl ⟨by rfl, ?_⟩) ?_ ?_
                    rotate_left
                    · intro w'
                      go_simp
                      with_reducible rfl
                    rotate_left
                    · simp only [Act.put, List.setIfInBounds_toArray, List.set_cons_zero, List.set_cons_succ, iR, iT]
                      rfl
                    refine iZ (i := 16) (N := some 74) (v := ?_) (a' := ?_) #[true, true, true, true, true, true, true, true, true, true, true, true, true, true, true, true, true, false, false, false, false, false, false, false, false, false, false, false, false, false, false, false] rfl rfl (iQ HT_.out (by kernel_rfl)) (fun _ _ _ h => h) (Or.inl ⟨by rfl, ?_⟩) ?_ ?_
                    rotate_left
                    · intro w'
                      go_simp
                      with_reducible rfl
                    rotate_left
                    · simp only [Act.put, List.setIfInBounds_toArray, List.set_cons_zero, List.set_cons_succ, iR, iT]
                      rfl
                    refine iZ (i := 17) (N := some 75) (v := ?_) (a' := ?_) #[true, true, true, true, true, true, true, true, true, true, true, true, true, true, true, true, true, true, false, false, false, false, false, false, false, false, false, false, false, false, false, false] rfl rfl (iQ HT_.out (by kernel_rfl)) (fun _ _ _ h => h) (Or.inl ⟨by rfl, ?_⟩) ?_ ?_
                    rotate_left
                    · intro w'
                      go_simp
                      with_reducible rfl
                    rotate_left
                    · simp only [Act.put, List.setIfInBounds_toArray, List.set_cons_zero, List.set_cons_succ, iR, iT]
                      rfl
                    refine iZ (i := 18) (N := some 76) (v := ?_) (a' := ?_) #[true, true, true, true, true, true, true, true, true, true, true, true, true, true, true, true, true, true, true, false, false, false, false, false, false, false, false, false, false, false, false, false] rfl rfl (iQ HT_.out (by kernel_rfl)) (fun _ _ _ h => h) (Or.inl ⟨by rfl, ?_⟩) ?_ ?_
                    rotate_left
                    · intro w'
                      go_simp
                      with_reducible rfl
                    rotate_left
                    · simp only [Act.put, List.setIfInBounds_toArray, List.set_cons_zero, List.set_cons_succ, iR, iT]
                      rfl
                    refine take_ (i := 19) (N := some 77) (v := ?_) (a' := ?_) #[true, true, true, true, true, true, true, true, true, true, true, true, true, true, true, true, true, true, true, true, false, false, false, false, false, false, false, false, false, false, false, false] rfl rfl (jL HT_.out HW_.out (by kernel_rfl)) (fun _ _ _ h => h) (Or.inl ⟨by rfl, ?_⟩) hHeld ?_ ?_
                    rotate_left
                    · rintro w' ⟨s0, s1⟩
                      go_simp
                      with_reducible rfl
                    rotate_left
                    · simp only [Act.put, List.setIfInBounds_toArray, List.set_cons_zero, List.set_cons_succ, iR, iT]
                      rfl
                    refine one_ (i := 20) (N := some 78) #[true, true, true, true, true, true, true, true, true, true, true, true, true, true, true, true, true, true, true, true, true, false, false, false, false, false, false, false, false, false, false, false] rfl rfl (kH HT_.out (by kernel_rfl)) (by decide) (fun K hK => ?_)
                    refine l9 Try.func32 (by kernel_rfl) rfl #[.slice Ao56 t413.length co56, .int .i64 (rd t410 x14_1)] (by rfl) rfl rfl (by (try simp only [List.map_toArray, List.map_cons, List.map_nil]); first | done | rfl | (simp only [List.length_drop, List.length_take]; rfl)) ?_
                    with_reducible refine (stratumlaw12_has.calls k1 _ _ t413 (rd t410 x14_1) false _ ?side1 ?side2 A47.out).mono ?_
                    (case side1 => repeat (first | exact (Kd.R_reads' HO_12.out).2.2 | (with_reducible refine Kd.C_alloc ?_ _) | (with_reducible refine Kd.C_drewN ?_ _) | (with_reducible refine Kd.C_drew ?_)))
                    (case side2 => exact (Kd.R_reads' HO_12.out).2.1)
                    rintro e w' ⟨rfl, ⟨nd, rfl⟩⟩
                    refine ⟨_, rfl, ?_⟩
                    obtain ⟨Ao57, co57, eo57⟩ := Kd.R_slice HO_13.out
                    (first | subst eo57 | (injection eo57 with f1_ f2_ f3_; have f4_ := f1_.symm; have f5_ := f3_.symm; clear f1_ f2_ f3_; subst f4_; subst f5_))
                    refine hK.out _ _ ⟨hHeld.1, hHeld.2⟩ (fun hHeld => ?_)
                    clear hK K
                    refine kM (a' := ?_) ?_ ?_
                    rotate_left
                    · show Act.put _ (some 78) _ = _
                      simp only [Act.put, List.setIfInBounds_toArray, List.set_cons_zero, List.set_cons_succ, iR, iT]
                      rfl
                    refine iZ (i := 21) (N := some 79) (v := ?_) (a' := ?_) #[true, true, true, true, true, true, true, true, true, true, true, true, true, true, true, true, true, true, true, true, true, true, false, false, false, false, false, false, false, false, false, false] rfl rfl (iQ HT_.out (by kernel_rfl)) (fun _ _ _ h => h) (Or.inl ⟨by rfl, ?_⟩) ?_ ?_
                    rotate_left
                    · intro w'
                      go_simp
                      with_reducible rfl
                    rotate_left
                    · simp only [Act.put, List.setIfInBounds_toArray, List.set_cons_zero, List.set_cons_succ, iR, iT]
                      rfl
                    refine iZ (i := 22) (N := some 80) (v := ?_) (a' := ?_) #[true, true, true, true, true, true, true, true, true, true, true, true, true, true, true, true, true, true, true, true, true, true, true, false, false, false, false, false, false, false, false, false] rfl rfl (iQ HT_.out (by kernel_rfl)) (fun _ _ _ h => h) (Or.inl ⟨by rfl, ?_⟩) ?_ ?_
                    rotate_left
                    · intro w'
                      go_simp
                      with_reducible rfl
                    rotate_left
                    · simp only [Act.put, List.setIfInBounds_toArray, List.set_cons_zero, List.set_cons_succ, iR, iT]
                      rfl
                    refine iZ (i := 23) (N := some 81) (v := ?_) (a' := ?_) #[true, true, true, true, true, true, true, true, true, true, true, true, true, true, true, true, true, true, true, true, true, true, true, true, false, false, false, false, false, false, false, false] rfl rfl (iQ HT_.out (by kernel_rfl)) (fun _ _ _ h => h) (Or.inl ⟨by rfl, ?_⟩) ?_ ?_
                    rotate_left
                    · intro w'
                      go_simp
                      with_reducible rfl
                    rotate_left
                    · simp only [Act.put, List.setIfInBounds_toArray, List.set_cons_zero, List.set_cons_succ, iR, iT]
                      rfl
                    refine iZ (i := 24) (N := some 82) (v := ?_) (a' := ?_) #[true, true, true, true, true, true, true, true, true, true, true, true, true, true, true, true, true, true, true, true, true, true, true, true, true, false, false, false, false, false, false, false] rfl rfl (iQ HT_.out (by kernel_rfl)) (fun _ _ _ h => h) (Or.inl ⟨by rfl, ?_⟩) ?_ ?_
                    rotate_left
                    · intro w'
                      go_simp
                      with_reducible rfl
                    rotate_left
                    · simp only [Act.put, List.setIfInBounds_toArray, List.set_cons_zero, List.set_cons_succ, iR, iT]
                      rfl
                    refine iZ (i := 25) (N := some 83) (v := ?_) (a' := ?_) #[true, true, true, true, true, true, true, true, true, true, true, true, true, true, true, true, true, true, true, true, true, true, true, true, true, true, false, false, false, false, false, false] rfl rfl (iQ HT_.out (by kernel_rfl)) (fun _ _ _ h => h) (Or.inl ⟨by rfl, ?_⟩) ?_ ?_
                    rotate_left
                    · intro w'
                      go_simp
                      with_reducible rfl
                    rotate_left
                    · simp only [Act.put, List.setIfInBounds_toArray, List.set_cons_zero, List.set_cons_succ, iR, iT]
                      rfl
                    refine iZ (i := 26) (N := some 84) (v := ?_) (a' := ?_) #[true, true, true, true, true, true, true, true, true, true, true, true, true, true, true, true, true, true, true, true, true, true, true, true, true, true, true, false, false, false, false, false] rfl rfl (iQ HT_.out (by kernel_rfl)) (fun _ _ _ h => h) (Or.inl ⟨by rfl, ?_⟩) ?_ ?_
                    rotate_left
                    · intro w'
                      go_simp
                      with_reducible rfl
                    rotate_left
                    · simp only [Act.put, List.setIfInBounds_toArray, List.set_cons_zero, List.set_cons_succ, iR, iT]
                      rfl
                    refine take_ (i := 27) (N := some 85) (v := ?_) (a' := ?_) #[true, true, true, true, true, true, true, true, true, true, true, true, true, true, true, true, true, true, true, true, true, true, true, true, true, true, true, true, false, false, false, false] rfl rfl (jL HT_.out HW_.out (by kernel_rfl)) (fun _ _ _ h => h) (Or.inl ⟨by rfl, ?_⟩) hHeld ?_ ?_
                    rotate_left
                    · rintro w' ⟨s0, s1⟩
                      go_simp
                      with_reducible rfl
                    rotate_left
                    · simp only [Act.put, List.setIfInBounds_toArray, List.set_cons_zero, List.set_cons_succ, iR, iT]
                      rfl
                    refine one_ (i := 28) (N := some 86) #[true, true, true, true, true, true, true, true, true, true, true, true, true, true, true, true, true, true, true, true, true, true, true, true, true, true, true, true, true, false, false, false] rfl rfl (kH HT_.out (by kernel_rfl)) (by decide) (fun K hK => ?_)
                    refine l9 Try.func32 (by kernel_rfl) rfl #[.slice Ao57 t416.length co57, .int .i64 (rd t410 x14_1)] (by rfl) rfl rfl (by (try simp only [List.map_toArray, List.map_cons, List.map_nil]); first | done | rfl | (simp only [List.length_drop, List.length_take]; rfl)) ?_
                    with_reducible refine (stratumlaw12_has.calls k1 _ _ t416 (rd t410 x14_1) true _ ?side1 ?side2 A52.out).mono ?_
                    (case side1 => repeat (first | exact (Kd.R_reads' HO_13.out).2.2 | (with_reducible refine Kd.C_alloc ?_ _) | (with_reducible refine Kd.C_drewN ?_ _) | (with_reducible refine Kd.C_drew ?_)))
                    (case side2 => exact (Kd.R_reads' HO_13.out).2.1)
                    rintro e w' ⟨rfl, ⟨nd, rfl⟩⟩
                    refine ⟨_, rfl, ?_⟩
                    refine hK.out _ _ ⟨hHeld.1, hHeld.2⟩ (fun hHeld => ?_)
                    clear hK K
                    refine kM (a' := ?_) ?_ ?_
                    rotate_left
                    · show Act.put _ (some 86) _ = _
                      simp only [Act.put, List.setIfInBounds_toArray, List.set_cons_zero, List.set_cons_succ, iR, iT]
                      rfl
                    refine iZ (i := 29) (N := some 87) (v := ?_) (a' := ?_) #[true, true, true, true, true, true, true, true, true, true, true, true, true, true, true, true, true, true, true, true, true, true, true, true, true, true, true, true, true, true, false, false] rfl rfl (iQ HT_.out (by kernel_rfl)) (fun _ _ _ h => h) (Or.inl ⟨by rfl, ?_⟩) ?_ ?_
                    rotate_left
                    · intro w'
                      go_simp
                      with_reducible rfl
                    rotate_left
                    · simp only [Act.put, List.setIfInBounds_toArray, List.set_cons_zero, List.set_cons_succ, iR, iT]
                      rfl
                    refine iZ (i := 30) (N := some 88) (v := ?_) (a' := ?_) #[true, true, true, true, true, true, true, true, true, true, true, true, true, true, true, true, true, true, true, true, true, true, true, true, true, true, true, true, true, true, true, false] rfl rfl (iQ HT_.out (by kernel_rfl)) (fun _ _ _ h => h) (Or.inl ⟨by rfl, ?_⟩) ?_ ?_
                    rotate_left
                    · intro w'
                      go_simp
                      with_reducible rfl
                    rotate_left
                    · simp only [Act.put, List.setIfInBounds_toArray, List.set_cons_zero, List.set_cons_succ, iR, iT]
                      rfl
                    refine iZ (i := 31) (N := some 89) (v := ?_) (a' := ?_) #[true, true, true, true, true, true, true, true, true, true, true, true, true, true, true, true, true, true, true, true, true, true, true, true, true, true, true, true, true, true, true, true] rfl rfl (iQ HT_.out (by kernel_rfl)) (fun _ _ _ h => h) (Or.inl ⟨by rfl, ?_⟩) ?_ ?_
                    rotate_left
                    · intro w'
                      go_simp
                      with_reducible rfl
                    rotate_left
                    · simp only [Act.put, List.setIfInBounds_toArray, List.set_cons_zero, List.set_cons_succ, iR, iT]
                      rfl
                    refine lU (kL HT_.out (by kernel_rfl)) ?_
                    try go_wp2
                    go_roundg k1
                    case measure => have := HK1.out; omega
                    case rel => exact ⟨(wrap64 (x14_1 + 1)), (by first | rfl | (simp; done) | (simp [*]; done)), H', ⟨by have := HK1.out; omega⟩, ⟨by (with_reducible repeat (first | apply Kd.R_alloc | apply Kd.R_drewN | apply Kd.R_drew)); exact HO_11.out⟩, ⟨by (with_reducible repeat (first | apply Kd.R_alloc | apply Kd.R_drewN | apply Kd.R_drew)); exact HO_12.out⟩, ⟨by (with_reducible repeat (first | apply Kd.R_alloc | apply Kd.R_drewN | apply Kd.R_drew)); exact HO_13.out⟩, ⟨by (with_reducible repeat (first | apply Kd.R_alloc | apply Kd.R_drewN | apply Kd.R_drew)); exact HO_410001.out⟩, ⟨bk_ BK404.out⟩, ⟨bk_ BK409.out⟩, ⟨by repeat (first | (with_reducible first | exact HB.out | apply iF | apply iD | apply iG | refine iE ?_ GE404.out | refine iE ?_ GE409.out) | exact HB.out)⟩⟩
                  · replace c53 := Bool.eq_false_iff.mpr c53
                    subst c53
                    have H1 : (some false) = some r := by rw [if_neg (show ¬ (false = true) by decide)] at H; exact H
                    clear H
                    have H := H1
                    clear H1
                    obtain rfl := Option.some.inj H
                    obtain ⟨Ao58, co58, eo58⟩ := Kd.R_slice HO_11.out
                    subst eo58
                    try go_wp2
                    have n0_ := iC.mk (Kd.R_drew HO_11.out)
                    have n1_ := iC.mk (Kd.R_drew HO_12.out)
                    have n2_ := iC.mk (Kd.R_drew HO_13.out)
                    have n3_ := iC.mk (Kd.R_drew HO_410001.out)
                    have n4_ := iC.mk (iO BK404.out)
                    have n5_ := iC.mk (iO BK409.out)
                    have n6_ := iC.mk (iG HB.out)
                    clear HO_11
                    clear HO_12
                    clear HO_13
                    clear HO_410001
                    clear BK404
                    clear BK409
                    clear HB
                    have HO_11 := n0_
                    have HO_12 := n1_
                    have HO_13 := n2_
                    have HO_410001 := n3_
                    have BK404 := n4_
                    have BK409 := n5_
                    have HB := n6_
                    clear n0_ n1_ n2_ n3_ n4_ n5_ n6_
                    have p425 : 0 ≤ (x14_1 : Int) := of_decide_eq_true asm_
                    have q425 : x14_1 < (t410.length : Int) := of_decide_eq_true asm_
                    obtain ⟨ad425, e425, hx425_0⟩ := Kd.at_int (Kd.R_reads' HO_11.out).2.2 x14_1 p425 q425
                    cases e425
                    replace p425 := eq_true p425
                    replace q425 := eq_true q425
                    obtain ⟨Ao60, co60, eo60⟩ := Kd.R_slice HO_12.out
                    (first | subst eo60 | (injection eo60 with f1_ f2_ f3_; have f4_ := f1_.symm; have f5_ := f3_.symm; clear f1_ f2_ f3_; subst f4_; subst f5_))
                    have p427 : 0 ≤ (x14_1 : Int) := of_decide_eq_true asm_
                    have q427 : x14_1 < (t410.length : Int) := of_decide_eq_true asm_
                    obtain ⟨ad427, e427, hx427_0⟩ := Kd.at_int (Kd.R_reads' HO_11.out).2.2 x14_1 p427 q427
                    obtain rfl : ad425 = ad427 := (by injection e427)
                    replace p427 := eq_true p427
                    replace q427 := eq_true q427
                    refine kU (n := 32) (S := fun w' => w'.cell? (ad425.add (x14_1).toNat) = some (.int .i64 (rd t410 x14_1)) ∧ w'.cell? (ad425.add (x14_1).toNat) = some (.int .i64 (rd t410 x14_1))) (ds := []) #[false, false, false, false, false, false, false, false, false, false, false, false, false, false, false, false, false, false, false, false, false, false, false, false, false, false, false, false, false, false, false, false] (by kernel_rfl) rfl rfl ⟨hx425_0, hx427_0⟩ (fun hHeld => ?_); refine jW stratumlaw12_SpansNodes.tab11 stratumlaw12_SpansNodes.bits11 (fun HT_ HW_ => ?_)
                    generalize wr.drew = w59 at HO_11 HO_12 HO_13 HO_410001 BK404 BK409 HB hx425_0 hx427_0 hHeld ⊢
                    refine iZ (i := 0) (N := some 58) (v := ?_) (a' := ?_) #[true, false, false, false, false, false, false, false, false, false, false, false, false, false, false, false, false, false, false, false, false, false, false, false, false, false, false, false, false, false, false, false] rfl rfl (iQ HT_.out (by kernel_rfl)) (fun _ _ _ h => h) (Or.inl ⟨by rfl, ?_⟩) ?_ ?_
                    rotate_left
                    · intro w'
                      go_simp
                      with_reducible rfl
                    rotate_left
                    · simp only [Act.put, List.setIfInBounds_toArray, List.set_cons_zero, List.set_cons_succ, iR, iT]
                      rfl
                    refine iZ (i := 1) (N := some 59) (v := ?_) (a' := ?_) #[true, true, false, false, false, false, false, false, false, false, false, false, false, false, false, false, false, false, false, false, false, false, false, false, false, false, false, false, false, false, false, false] rfl rfl (iQ HT_.out (by kernel_rfl)) (fun _ _ _ h => h) (Or.inl ⟨by rfl, ?_⟩) ?_ ?_
                    rotate_left
                    · intro w'
                      go_simp
                      with_reducible rfl
                    rotate_left
                    · simp only [Act.put, List.setIfInBounds_toArray, List.set_cons_zero, List.set_cons_succ, iR, iT]
                      rfl
                    refine iZ (i := 2) (N := some 60) (v := ?_) (a' := ?_) #[true, true, true, false, false, false, false, false, false, false, false, false, false, false, false, false, false, false, false, false, false, false, false, false, false, false, false, false, false, false, false, false] rfl rfl (iQ HT_.out (by kernel_rfl)) (fun _ _ _ h => h) (Or.inl ⟨by rfl, ?_⟩) ?_ ?_
                    rotate_left
                    · intro w'
                      go_simp
                      with_reducible rfl
                    rotate_left
                    · simp only [Act.put, List.setIfInBounds_toArray, List.set_cons_zero, List.set_cons_succ, iR, iT]
                      rfl
                    refine iZ (i := 3) (N := some 61) (v := undef) (a' := ?_) #[true, true, true, true, false, false, false, false, false, false, false, false, false, false, false, false, false, false, false, false, false, false, false, false, false, false, false, false, false, false, false, false] rfl rfl (iQ HT_.out (by kernel_rfl)) (fun _ _ _ h => h) (Or.inr ⟨by rfl, rfl⟩) ?_ ?_
                    rotate_left
                    · simp only [Act.put, List.setIfInBounds_toArray, List.set_cons_zero, List.set_cons_succ, iR, iT]
                      rfl
                    refine iZ (i := 4) (N := some 62) (v := undef) (a' := ?_) #[true, true, true, true, true, false, false, false, false, false, false, false, false, false, false, false, false, false, false, false, false, false, false, false, false, false, false, false, false, false, false, false] rfl rfl (iQ HT_.out (by kernel_rfl)) (fun _ _ _ h => h) (Or.inr ⟨by rfl, rfl⟩) ?_ ?_
                    rotate_left
                    · simp only [Act.put, List.setIfInBounds_toArray, List.set_cons_zero, List.set_cons_succ, iR, iT]
                      rfl
                    refine iZ (i := 5) (N := some 63) (v := undef) (a' := ?_) #[true, true, true, true, true, true, false, false, false, false, false, false, false, false, false, false, false, false, false, false, false, false, false, false, false, false, false, false, false, false, false, false] rfl rfl (iQ HT_.out (by kernel_rfl)) (fun _ _ _ h => h) (Or.inr ⟨by rfl, rfl⟩) ?_ ?_
                    rotate_left
                    · simp only [Act.put, List.setIfInBounds_toArray, List.set_cons_zero, List.set_cons_succ, iR, iT]
                      rfl
                    refine iZ (i := 6) (N := some 64) (v := undef) (a' := ?_) #[true, true, true, true, true, true, true, false, false, false, false, false, false, false, false, false, false, false, false, false, false, false, false, false, false, false, false, false, false, false, false, false] rfl rfl (iQ HT_.out (by kernel_rfl)) (fun _ _ _ h => h) (Or.inr ⟨by rfl, rfl⟩) ?_ ?_
                    rotate_left
                    · simp only [Act.put, List.setIfInBounds_toArray, List.set_cons_zero, List.set_cons_succ, iR, iT]
                      rfl
                    refine iZ (i := 7) (N := some 65) (v := undef) (a' := ?_) #[true, true, true, true, true, true, true, true, false, false, false, false, false, false, false, false, false, false, false, false, false, false, false, false, false, false, false, false, false, false, false, false] rfl rfl (iQ HT_.out (by kernel_rfl)) (fun _ _ _ h => h) (Or.inr ⟨by rfl, rfl⟩) ?_ ?_
                    rotate_left
                    · simp only [Act.put, List.setIfInBounds_toArray, List.set_cons_zero, List.set_cons_succ, iR, iT]
                      rfl
                    refine iZ (i := 8) (N := some 66) (v := undef) (a' := ?_) #[true, true, true, true, true, true, true, true, true, false, false, false, false, false, false, false, false, false, false, false, false, false, false, false, false, false, false, false, false, false, false, false] rfl rfl (iQ HT_.out (by kernel_rfl)) (fun _ _ _ h => h) (Or.inr ⟨by rfl, rfl⟩) ?_ ?_
                    rotate_left
                    · simp only [Act.put, List.setIfInBounds_toArray, List.set_cons_zero, List.set_cons_succ, iR, iT]
                      rfl
                    refine iZ (i := 9) (N := some 67) (v := undef) (a' := ?_) #[true, true, true, true, true, true, true, true, true, true, false, false, false, false, false, false, false, false, false, false, false, false, false, false, false, false, false, false, false, false, false, false] rfl rfl (iQ HT_.out (by kernel_rfl)) (fun _ _ _ h => h) (Or.inr ⟨by rfl, rfl⟩) ?_ ?_
                    rotate_left
                    · simp only [Act.put, List.setIfInBounds_toArray, List.set_cons_zero, List.set_cons_succ, iR, iT]
                      rfl
                    refine iZ (i := 10) (N := some 68) (v := undef) (a' := ?_) #[true, true, true, true, true, true, true, true, true, true, true, false, false, false, false, false, false, false, false, false, false, false, false, false, false, false, false, false, false, false, false, false] rfl rfl (iQ HT_.out (by kernel_rfl)) (fun _ _ _ h => h) (Or.inr ⟨by rfl, rfl⟩) ?_ ?_
                    rotate_left
                    · simp only [Act.put, List.setIfInBounds_toArray, List.set_cons_zero, List.set_cons_succ, iR, iT]
                      rfl
                    refine iZ (i := 11) (N := some 69) (v := undef) (a' := ?_) #[true, true, true, true, true, true, true, true, true, true, true, true, false, false, false, false, false, false, false, false, false, false, false, false, false, false, false, false, false, false, false, false] rfl rfl (iQ HT_.out (by kernel_rfl)) (fun _ _ _ h => h) (Or.inr ⟨by rfl, rfl⟩) ?_ ?_
                    rotate_left
                    · simp only [Act.put, List.setIfInBounds_toArray, List.set_cons_zero, List.set_cons_succ, iR, iT]
                      rfl
                    refine iZ (i := 12) (N := some 70) (v := undef) (a' := ?_) #[true, true, true, true, true, true, true, true, true, true, true, true, true, false, false, false, false, false, false, false, false, false, false, false, false, false, false, false, false, false, false, false] rfl rfl (iQ HT_.out (by kernel_rfl)) (fun _ _ _ h => h) (Or.inr ⟨by rfl, rfl⟩) ?_ ?_
                    rotate_left
                    · simp only [Act.put, List.setIfInBounds_toArray, List.set_cons_zero, List.set_cons_succ, iR, iT]
                      rfl
                    refine iZ (i := 13) (N := some 71) (v := ?_) (a' := ?_) #[true, true, true, true, true, true, true, true, true, true, true, true, true, true, false, false, false, false, false, false, false, false, false, false, false, false, false, false, false, false, false, false] rfl rfl (iQ HT_.out (by kernel_rfl)) (fun _ _ _ h => h) (Or.inl ⟨by rfl, ?_⟩) ?_ ?_
                    rotate_left
                    · intro w'
                      go_simp
                      with_reducible rfl
                    rotate_left
                    · simp only [Act.put, List.setIfInBounds_toArray, List.set_cons_zero, List.set_cons_succ, iR, iT]
                      rfl
                    refine iZ (i := 14) (N := some 72) (v := ?_) (a' := ?_) #[true, true, true, true, true, true, true, true, true, true, true, true, true, true, true, false, false, false, false, false, false, false, false, false, false, false, false, false, false, false, false, false] rfl rfl (iQ HT_.out (by kernel_rfl)) (fun _ _ _ h => h) (Or.inl ⟨by rfl, ?_⟩) ?_ ?_
                    rotate_left
                    · intro w'
                      go_simp
                      with_reducible rfl
                    rotate_left
                    · simp only [Act.put, List.setIfInBounds_toArray, List.set_cons_zero, List.set_cons_succ, iR, iT]
                      rfl
                    refine iZ (i := 15) (N := some 73) (v := ?_) (a' := ?_) #[true, true, true, true, true, true, true, true, true, true, true, true, true, true, true, true, false, false, false, false, false, false, false, false, false, false, false, false, false, false, false, false] rfl rfl (iQ HT_.out (by kernel_rfl)) (fun _ _ _ h => h) (Or.inl ⟨by rfl, ?_⟩) ?_ ?_
                    rotate_left
                    · intro w'
                      go_simp
                      with_reducible rfl
                    rotate_left
                    · simp only [Act.put, List.setIfInBounds_toArray, List.set_cons_zero, List.set_cons_succ, iR, iT]
                      rfl
                    refine iZ (i := 16) (N := some 74) (v := ?_) (a' := ?_) #[true, true, true, true, true, true, true, true, true, true, true, true, true, true, true, true, true, false, false, false, false, false, false, false, false, false, false, false, false, false, false, false] rfl rfl (iQ HT_.out (by kernel_rfl)) (fun _ _ _ h => h) (Or.inl ⟨by rfl, ?_⟩) ?_ ?_
                    rotate_left
                    · intro w'
                      go_simp
                      with_reducible rfl
                    rotate_left
                    · simp only [Act.put, List.setIfInBounds_toArray, List.set_cons_zero, List.set_cons_succ, iR, iT]
                      rfl
                    refine iZ (i := 17) (N := some 75) (v := ?_) (a' := ?_) #[true, true, true, true, true, true, true, true, true, true, true, true, true, true, true, true, true, true, false, false, false, false, false, false, false, false, false, false, false, false, false, false] rfl rfl (iQ HT_.out (by kernel_rfl)) (fun _ _ _ h => h) (Or.inl ⟨by rfl, ?_⟩) ?_ ?_
                    rotate_left
                    · intro w'
                      go_simp
                      with_reducible rfl
                    rotate_left
                    · simp only [Act.put, List.setIfInBounds_toArray, List.set_cons_zero, List.set_cons_succ, iR, iT]
                      rfl
                    refine iZ (i := 18) (N := some 76) (v := ?_) (a' := ?_) #[true, true, true, true, true, true, true, true, true, true, true, true, true, true, true, true, true, true, true, false, false, false, false, false, false, false, false, false, false, false, false, false] rfl rfl (iQ HT_.out (by kernel_rfl)) (fun _ _ _ h => h) (Or.inl ⟨by rfl, ?_⟩) ?_ ?_
                    rotate_left
                    · intro w'
                      go_simp
                      with_reducible rfl
                    rotate_left
                    · simp only [Act.put, List.setIfInBounds_toArray, List.set_cons_zero, List.set_cons_succ, iR, iT]
                      rfl
                    refine take_ (i := 19) (N := some 77) (v := ?_) (a' := ?_) #[true, true, true, true, true, true, true, true, true, true, true, true, true, true, true, true, true, true, true, true, false, false, false, false, false, false, false, false, false, false, false, false] rfl rfl (jL HT_.out HW_.out (by kernel_rfl)) (fun _ _ _ h => h) (Or.inl ⟨by rfl, ?_⟩) hHeld ?_ ?_
                    rotate_left
                    · rintro w' ⟨s0, s1⟩
                      go_simp
                      with_reducible rfl
                    rotate_left
                    · simp only [Act.put, List.setIfInBounds_toArray, List.set_cons_zero, List.set_cons_succ, iR, iT]
                      rfl
                    refine one_ (i := 20) (N := some 78) #[true, true, true, true, true, true, true, true, true, true, true, true, true, true, true, true, true, true, true, true, true, false, false, false, false, false, false, false, false, false, false, false] rfl rfl (kH HT_.out (by kernel_rfl)) (by decide) (fun K hK => ?_)
                    refine l9 Try.func32 (by kernel_rfl) rfl #[.slice Ao60 t413.length co60, .int .i64 (rd t410 x14_1)] (by rfl) rfl rfl (by (try simp only [List.map_toArray, List.map_cons, List.map_nil]); first | done | rfl | (simp only [List.length_drop, List.length_take]; rfl)) ?_
                    with_reducible refine (stratumlaw12_has.calls k1 _ _ t413 (rd t410 x14_1) false _ ?side1 ?side2 A47.out).mono ?_
                    (case side1 => repeat (first | exact (Kd.R_reads' HO_12.out).2.2 | (with_reducible refine Kd.C_alloc ?_ _) | (with_reducible refine Kd.C_drewN ?_ _) | (with_reducible refine Kd.C_drew ?_)))
                    (case side2 => exact (Kd.R_reads' HO_12.out).2.1)
                    rintro e w' ⟨rfl, ⟨nd, rfl⟩⟩
                    refine ⟨_, rfl, ?_⟩
                    obtain ⟨Ao61, co61, eo61⟩ := Kd.R_slice HO_13.out
                    (first | subst eo61 | (injection eo61 with f1_ f2_ f3_; have f4_ := f1_.symm; have f5_ := f3_.symm; clear f1_ f2_ f3_; subst f4_; subst f5_))
                    refine hK.out _ _ ⟨hHeld.1, hHeld.2⟩ (fun hHeld => ?_)
                    clear hK K
                    refine kM (a' := ?_) ?_ ?_
                    rotate_left
                    · show Act.put _ (some 78) _ = _
                      simp only [Act.put, List.setIfInBounds_toArray, List.set_cons_zero, List.set_cons_succ, iR, iT]
                      rfl
                    refine iZ (i := 21) (N := some 79) (v := ?_) (a' := ?_) #[true, true, true, true, true, true, true, true, true, true, true, true, true, true, true, true, true, true, true, true, true, true, false, false, false, false, false, false, false, false, false, false] rfl rfl (iQ HT_.out (by kernel_rfl)) (fun _ _ _ h => h) (Or.inl ⟨by rfl, ?_⟩) ?_ ?_
                    rotate_left
                    · intro w'
                      go_simp
                      with_reducible rfl
                    rotate_left
                    · simp only [Act.put, List.setIfInBounds_toArray, List.set_cons_zero, List.set_cons_succ, iR, iT]
                      rfl
                    refine iZ (i := 22) (N := some 80) (v := ?_) (a' := ?_) #[true, true, true, true, true, true, true, true, true, true, true, true, true, true, true, true, true, true, true, true, true, true, true, false, false, false, false, false, false, false, false, false] rfl rfl (iQ HT_.out (by kernel_rfl)) (fun _ _ _ h => h) (Or.inl ⟨by rfl, ?_⟩) ?_ ?_
                    rotate_left
                    · intro w'
                      go_simp
                      with_reducible rfl
                    rotate_left
                    · simp only [Act.put, List.setIfInBounds_toArray, List.set_cons_zero, List.set_cons_succ, iR, iT]
                      rfl
                    refine iZ (i := 23) (N := some 81) (v := ?_) (a' := ?_) #[true, true, true, true, true, true, true, true, true, true, true, true, true, true, true, true, true, true, true, true, true, true, true, true, false, false, false, false, false, false, false, false] rfl rfl (iQ HT_.out (by kernel_rfl)) (fun _ _ _ h => h) (Or.inl ⟨by rfl, ?_⟩) ?_ ?_
                    rotate_left
                    · intro w'
                      go_simp
                      with_reducible rfl
                    rotate_left
                    · simp only [Act.put, List.setIfInBounds_toArray, List.set_cons_zero, List.set_cons_succ, iR, iT]
                      rfl
                    refine iZ (i := 24) (N := some 82) (v := ?_) (a' := ?_) #[true, true, true, true, true, true, true, true, true, true, true, true, true, true, true, true, true, true, true, true, true, true, true, true, true, false, false, false, false, false, false, false] rfl rfl (iQ HT_.out (by kernel_rfl)) (fun _ _ _ h => h) (Or.inl ⟨by rfl, ?_⟩) ?_ ?_
                    rotate_left
                    · intro w'
                      go_simp
                      with_reducible rfl
                    rotate_left
                    · simp only [Act.put, List.setIfInBounds_toArray, List.set_cons_zero, List.set_cons_succ, iR, iT]
                      rfl
                    refine iZ (i := 25) (N := some 83) (v := ?_) (a' := ?_) #[true, true, true, true, true, true, true, true, true, true, true, true, true, true, true, true, true, true, true, true, true, true, true, true, true, true, false, false, false, false, false, false] rfl rfl (iQ HT_.out (by kernel_rfl)) (fun _ _ _ h => h) (Or.inl ⟨by rfl, ?_⟩) ?_ ?_
                    rotate_left
                    · intro w'
                      go_simp
                      with_reducible rfl
                    rotate_left
                    · simp only [Act.put, List.setIfInBounds_toArray, List.set_cons_zero, List.set_cons_succ, iR, iT]
                      rfl
                    refine iZ (i := 26) (N := some 84) (v := ?_) (a' := ?_) #[true, true, true, true, true, true, true, true, true, true, true, true, true, true, true, true, true, true, true, true, true, true, true, true, true, true, true, false, false, false, false, false] rfl rfl (iQ HT_.out (by kernel_rfl)) (fun _ _ _ h => h) (Or.inl ⟨by rfl, ?_⟩) ?_ ?_
                    rotate_left
                    · intro w'
                      go_simp
                      with_reducible rfl
                    rotate_left
                    · simp only [Act.put, List.setIfInBounds_toArray, List.set_cons_zero, List.set_cons_succ, iR, iT]
                      rfl
                    refine take_ (i := 27) (N := some 85) (v := ?_) (a' := ?_) #[true, true, true, true, true, true, true, true, true, true, true, true, true, true, true, true, true, true, true, true, true, true, true, true, true, true, true, true, false, false, false, false] rfl rfl (jL HT_.out HW_.out (by kernel_rfl)) (fun _ _ _ h => h) (Or.inl ⟨by rfl, ?_⟩) hHeld ?_ ?_
                    rotate_left
                    · rintro w' ⟨s0, s1⟩
                      go_simp
                      with_reducible rfl
                    rotate_left
                    · simp only [Act.put, List.setIfInBounds_toArray, List.set_cons_zero, List.set_cons_succ, iR, iT]
                      rfl
                    refine one_ (i := 28) (N := some 86) #[true, true, true, true, true, true, true, true, true, true, true, true, true, true, true, true, true, true, true, true, true, true, true, true, true, true, true, true, true, false, false, false] rfl rfl (kH HT_.out (by kernel_rfl)) (by decide) (fun K hK => ?_)
                    refine l9 Try.func32 (by kernel_rfl) rfl #[.slice Ao61 t416.length co61, .int .i64 (rd t410 x14_1)] (by rfl) rfl rfl (by (try simp only [List.map_toArray, List.map_cons, List.map_nil]); first | done | rfl | (simp only [List.length_drop, List.length_take]; rfl)) ?_
                    with_reducible refine (stratumlaw12_has.calls k1 _ _ t416 (rd t410 x14_1) false _ ?side1 ?side2 A52.out).mono ?_
                    (case side1 => repeat (first | exact (Kd.R_reads' HO_13.out).2.2 | (with_reducible refine Kd.C_alloc ?_ _) | (with_reducible refine Kd.C_drewN ?_ _) | (with_reducible refine Kd.C_drew ?_)))
                    (case side2 => exact (Kd.R_reads' HO_13.out).2.1)
                    rintro e w' ⟨rfl, ⟨nd, rfl⟩⟩
                    refine ⟨_, rfl, ?_⟩
                    refine hK.out _ _ ⟨hHeld.1, hHeld.2⟩ (fun hHeld => ?_)
                    clear hK K
                    refine kM (a' := ?_) ?_ ?_
                    rotate_left
                    · show Act.put _ (some 86) _ = _
                      simp only [Act.put, List.setIfInBounds_toArray, List.set_cons_zero, List.set_cons_succ, iR, iT]
                      rfl
                    refine iZ (i := 29) (N := some 87) (v := ?_) (a' := ?_) #[true, true, true, true, true, true, true, true, true, true, true, true, true, true, true, true, true, true, true, true, true, true, true, true, true, true, true, true, true, true, false, false] rfl rfl (iQ HT_.out (by kernel_rfl)) (fun _ _ _ h => h) (Or.inl ⟨by rfl, ?_⟩) ?_ ?_
                    rotate_left
                    · intro w'
                      go_simp
                      with_reducible rfl
                    rotate_left
                    · simp only [Act.put, List.setIfInBounds_toArray, List.set_cons_zero, List.set_cons_succ, iR, iT]
                      rfl
                    refine iZ (i := 30) (N := some 88) (v := ?_) (a' := ?_) #[true, true, true, true, true, true, true, true, true, true, true, true, true, true, true, true, true, true, true, true, true, true, true, true, true, true, true, true, true, true, true, false] rfl rfl (iQ HT_.out (by kernel_rfl)) (fun _ _ _ h => h) (Or.inl ⟨by rfl, ?_⟩) ?_ ?_
                    rotate_left
                    · intro w'
                      go_simp
                      with_reducible rfl
                    rotate_left
                    · simp only [Act.put, List.setIfInBounds_toArray, List.set_cons_zero, List.set_cons_succ, iR, iT]
                      rfl
                    refine iZ (i := 31) (N := some 89) (v := ?_) (a' := ?_) #[true, true, true, true, true, true, true, true, true, true, true, true, true, true, true, true, true, true, true, true, true, true, true, true, true, true, true, true, true, true, true, true] rfl rfl (iQ HT_.out (by kernel_rfl)) (fun _ _ _ h => h) (Or.inl ⟨by rfl, ?_⟩) ?_ ?_
                    rotate_left
                    · intro w'
                      go_simp
                      with_reducible rfl
                    rotate_left
                    · simp only [Act.put, List.setIfInBounds_toArray, List.set_cons_zero, List.set_cons_succ, iR, iT]
                      rfl
                    refine lU (kL HT_.out (by kernel_rfl)) ?_
                    try go_wp2
                    go_ret
                    exact ⟨by first | rfl | (simp [iU, iV] <;> rfl) | (simp [*, iU, iV] <;> rfl), by repeat (first | (with_reducible first | exact HB.out | apply iF | apply iD | apply iG | refine iE ?_ GE404.out | refine iE ?_ GE409.out) | exact HB.out)⟩
              · rw [if_neg c46] at H
                exact absurd H (by simp)
          · rw [if_neg c22] at H
            have c22b0 : decide (x14_1 < (t410.length : Int)) = false := decide_eq_false c22
            clear c22
            have H' := iC.mk H
            clear H
            obtain ⟨Ao62, co62, eo62⟩ := Kd.R_slice HO_11.out
            subst eo62
            go_wp2
            go_loopg [15] k1 (fun kq v15 w' => ∃ (x15_2 : Int), v15 = .int .i64 x15_2 ∧ iC (stratumlaw12_SpansNodes.l1 kq (Int.tmod (wrap64 (a1_0)) 200) t410 t413 x15_2 t405 t406 = some r) ∧ iC (kq ≤ k1) ∧ iC (Kd.R (Kd.int .i64) 3 w' w.heap.size (fun k_ => some k_ ≠ (v414 : Value).ownBlock) (.slice Ao62 t410.length co62) t410) ∧ iC (Kd.R (Kd.int .i64) 3 w' w.heap.size (fun k_ => some k_ ≠ ((.slice Ao62 t410.length co62) : Value).ownBlock) v414 t413) ∧ iC (Kd.R k60 60 w' w.heap.size (fun _ => True) (.slice Ao15 t406.length co15) t406) ∧ iC (w'.heap[gb404]? = some (.cells #[.int .u16 a1_0, .int .u16 a1_1, .int .u8 a1_2] 55 (0, 0))) ∧ iC (w'.heap[gb409]? = some (.cells #[.int .u32 t405, (.slice Ao15 t406.length co15)] 42 (0, 0))) ∧ iC (Below w.heap.size w w'))
            case atStart => exact ⟨(0), (by first | rfl | (simp; done) | (simp [*]; done)), H', ⟨Nat.le_refl _⟩, ⟨by (with_reducible repeat (first | apply Kd.R_alloc | apply Kd.R_drewN | apply Kd.R_drew)); exact Kd.R_mono HO_11.out (fun _ hk => hk.1)⟩, ⟨by (with_reducible repeat (first | apply Kd.R_alloc | apply Kd.R_drewN | apply Kd.R_drew)); exact Kd.R_mono HO_12.out (fun _ hk => hk.1)⟩, ⟨by (with_reducible repeat (first | apply Kd.R_alloc | apply Kd.R_drewN | apply Kd.R_drew)); exact HO_410001.out⟩, ⟨bk_ BK404.out⟩, ⟨bk_ BK409.out⟩, ⟨by repeat (first | (with_reducible first | exact HB.out | apply iF | apply iD | apply iG | refine iE ?_ GE404.out | refine iE ?_ GE409.out) | exact HB.out)⟩⟩
            case round =>
              clear H'
              try clear c2
              try clear p2
              try clear c3
              try clear c4
              try clear p4
              try clear q4
              try clear hx4
              try clear c5
              try clear p6
              try clear c22
              try clear c22b0
              try clear c32
              try clear p42
              try clear q42
              try clear hx42
              try clear c46
              try clear c48
              try clear c53
              try clear hx425_0
              try clear hx427_0
              try clear p425
              try clear p427
              try clear q425
              try clear q427
              obtain ⟨x15_2, rfl, HA, HK2, HO_11, HO_12, HO_410001, BK404, BK409, HB⟩ := hrel
              cases gk with
              | zero => exact absurd HA.out (by simp [stratumlaw12_SpansNodes.l1])
              | succ k2 =>
                have H := HA.out
                clear HA
                simp only [stratumlaw12_SpansNodes.l1] at H
                by_cases c63 : x15_2 < (t413.length : Int)
                · rw [if_pos c63] at H
                  have c63b0 : decide (x15_2 < (t413.length : Int)) = true := decide_eq_true c63
                  clear c63
                  by_cases c64 : 0 ≤ x15_2
                  · rw [if_pos c64] at H
                    have c64b0 : decide (0 ≤ x15_2) = true := decide_eq_true c64
                    clear c64
                    replace H := Option.bind_eq_some_iff.mp H
                    obtain ⟨t430, A650, H⟩ := H
                    replace H : (if t430 = true then (stratumlaw12_SpansNodes.l1 k2 (Int.tmod (wrap64 (a1_0)) 200) t410 t413 (wrap64 (x15_2 + 1)) t405 t406) else (some false)) = some r := H
                    have A65 := iC.mk A650
                    clear A650
                    by_cases c66 : t430 = true
                    · subst c66
                      have H1 : (stratumlaw12_SpansNodes.l1 k2 (Int.tmod (wrap64 (a1_0)) 200) t410 t413 (wrap64 (x15_2 + 1)) t405 t406) = some r := by rw [if_pos rfl] at H; exact H
                      clear H
                      have H := H1
                      clear H1
                      have H' := iC.mk H
                      clear H
                      obtain ⟨Ao67, co67, eo67⟩ := Kd.R_slice HO_12.out
                      subst eo67
                      have p429 : 0 ≤ (x15_2 : Int) := of_decide_eq_true asm_
                      have q429 : x15_2 < (t413.length : Int) := of_decide_eq_true asm_
                      obtain ⟨ad429, e429, hx429_0⟩ := Kd.at_int (Kd.R_reads' HO_12.out).2.2 x15_2 p429 q429
                      cases e429
                      replace p429 := eq_true p429
                      replace q429 := eq_true q429
                      go_wp2_with (first | ((with_reducible refine iW (f := 32) rfl ?_); refine jH (some 101) rfl rfl Try.func32 (by kernel_rfl) rfl #[.slice Ao62 t410.length co62, .int .i64 (rd t413 x15_2)] rfl (by (try simp only [List.map_toArray, List.map_cons, List.map_nil]); first | done | rfl | (simp only [List.length_drop, List.length_take]; rfl)) ?_; (with_reducible refine (stratumlaw12_has.calls k2 _ _ t410 (rd t413 x15_2) true _ ?side1 ?side2 A65.out).mono ?_); (case side1 => repeat (first | exact (Kd.R_reads' HO_11.out).2.2 | (with_reducible refine Kd.C_alloc ?_ _) | (with_reducible refine Kd.C_drewN ?_ _) | (with_reducible refine Kd.C_drew ?_))); (case side2 => exact (Kd.R_reads' HO_11.out).2.1); rintro e w' ⟨rfl, ⟨nd, rfl⟩⟩; refine ⟨_, rfl, ?_⟩))
                      go_roundg k2
                      case measure => have := HK1.out; have := HK2.out; omega
                      case rel => exact ⟨(wrap64 (x15_2 + 1)), (by first | rfl | (simp; done) | (simp [*]; done)), H', ⟨by have := HK1.out; have := HK2.out; omega⟩, ⟨by (with_reducible repeat (first | apply Kd.R_alloc | apply Kd.R_drewN | apply Kd.R_drew)); exact HO_11.out⟩, ⟨by (with_reducible repeat (first | apply Kd.R_alloc | apply Kd.R_drewN | apply Kd.R_drew)); exact HO_12.out⟩, ⟨by (with_reducible repeat (first | apply Kd.R_alloc | apply Kd.R_drewN | apply Kd.R_drew)); exact HO_410001.out⟩, ⟨bk_ BK404.out⟩, ⟨bk_ BK409.out⟩, ⟨by repeat (first | (with_reducible first | exact HB.out | apply iF | apply iD | apply iG | refine iE ?_ GE404.out | refine iE ?_ GE409.out) | exact HB.out)⟩⟩
                    · replace c66 := Bool.eq_false_iff.mpr c66
                      subst c66
                      have H1 : (some false) = some r := by rw [if_neg (show ¬ (false = true) by decide)] at H; exact H
                      clear H
                      have H := H1
                      clear H1
                      obtain rfl := Option.some.inj H
                      obtain ⟨Ao68, co68, eo68⟩ := Kd.R_slice HO_12.out
                      subst eo68
                      have p429 : 0 ≤ (x15_2 : Int) := of_decide_eq_true asm_
                      have q429 : x15_2 < (t413.length : Int) := of_decide_eq_true asm_
                      obtain ⟨ad429, e429, hx429_0⟩ := Kd.at_int (Kd.R_reads' HO_12.out).2.2 x15_2 p429 q429
                      cases e429
                      replace p429 := eq_true p429
                      replace q429 := eq_true q429
                      go_wp2_with (first | ((with_reducible refine iW (f := 32) rfl ?_); refine jH (some 101) rfl rfl Try.func32 (by kernel_rfl) rfl #[.slice Ao62 t410.length co62, .int .i64 (rd t413 x15_2)] rfl (by (try simp only [List.map_toArray, List.map_cons, List.map_nil]); first | done | rfl | (simp only [List.length_drop, List.length_take]; rfl)) ?_; (with_reducible refine (stratumlaw12_has.calls k2 _ _ t410 (rd t413 x15_2) false _ ?side1 ?side2 A65.out).mono ?_); (case side1 => repeat (first | exact (Kd.R_reads' HO_11.out).2.2 | (with_reducible refine Kd.C_alloc ?_ _) | (with_reducible refine Kd.C_drewN ?_ _) | (with_reducible refine Kd.C_drew ?_))); (case side2 => exact (Kd.R_reads' HO_11.out).2.1); rintro e w' ⟨rfl, ⟨nd, rfl⟩⟩; refine ⟨_, rfl, ?_⟩))
                      go_ret
                      exact ⟨by first | rfl | (simp [iU, iV] <;> rfl) | (simp [*, iU, iV] <;> rfl), by repeat (first | (with_reducible first | exact HB.out | apply iF | apply iD | apply iG | refine iE ?_ GE404.out | refine iE ?_ GE409.out) | exact HB.out)⟩
                  · rw [if_neg c64] at H
                    exact absurd H (by simp)
                · rw [if_neg c63] at H
                  have c63b0 : decide (x15_2 < (t413.length : Int)) = false := decide_eq_false c63
                  clear c63
                  replace H := Option.bind_eq_some_iff.mp H
                  obtain ⟨t431, A690, H⟩ := H
                  replace H : (if t431 = true then ((spans_Nodes.f t405 t406 (Int.tmod (wrap64 (a1_0)) 200) (Int.tmod (wrap64 (a1_0)) 200)).bind fun t432 => (if (t432.length : Int) = 0 then (some (decide ((t410.length : Int) > 0))) else (some false))) else (some false)) = some r := H
                  have A69 := iC.mk A690
                  clear A690
                  by_cases c70 : t431 = true
                  · subst c70
                    have H1 : ((spans_Nodes.f t405 t406 (Int.tmod (wrap64 (a1_0)) 200) (Int.tmod (wrap64 (a1_0)) 200)).bind fun t432 => (if (t432.length : Int) = 0 then (some (decide ((t410.length : Int) > 0))) else (some false))) = some r := by rw [if_pos rfl] at H; exact H
                    clear H
                    have H := H1
                    clear H1
                    replace H := Option.bind_eq_some_iff.mp H
                    obtain ⟨t432, A710, H⟩ := H
                    replace H : (if (t432.length : Int) = 0 then (some (decide ((t410.length : Int) > 0))) else (some false)) = some r := H
                    have A71 := iC.mk A710
                    clear A710
                    by_cases c72 : (t432.length : Int) = 0
                    · rw [if_pos c72] at H
                      have c72b0 : ((t432.length : Int) == 0) = true := beq_iff_eq.mpr c72
                      have c72b1 : ((t432.length : Int) != 0) = false := bne_eq_false_iff_eq.mpr c72
                      clear c72
                      obtain rfl := Option.some.inj H
                      obtain ⟨Ao73, co73, eo73⟩ := Kd.R_slice HO_12.out
                      subst eo73
                      go_wp2_with (first | ((with_reducible refine iW (f := 29) rfl ?_); refine jH (some 103) rfl rfl Try.func29 (by kernel_rfl) rfl #[] rfl (by (try simp only [List.map_toArray, List.map_cons, List.map_nil]); first | done | rfl | (simp only [List.length_drop, List.length_take]; rfl)) ?_; (with_reducible refine (stratumlaw12_known.calls k2  true _ A69.out).mono ?_); rintro e w74 ⟨rfl, hb⟩; refine ⟨_, rfl, ?_⟩; have n0_ := iC.mk (Kd.R_below (by (with_reducible repeat (first | apply Kd.R_alloc | apply Kd.R_drewN | apply Kd.R_drew)); exact HO_11.out) hb); have n1_ := iC.mk (Kd.R_below (by (with_reducible repeat (first | apply Kd.R_alloc | apply Kd.R_drewN | apply Kd.R_drew)); exact HO_12.out) hb); have n2_ := iC.mk (Kd.R_below (by (with_reducible repeat (first | apply Kd.R_alloc | apply Kd.R_drewN | apply Kd.R_drew)); exact HO_410001.out) hb); have n3_ := iC.mk (iP (g := gb404) (o := .cells #[.int .u16 a1_0, .int .u16 a1_1, .int .u8 a1_2] 55 (0, 0)) (bk_ BK404.out) hb); have n4_ := iC.mk (iP (g := gb409) (o := .cells #[.int .u32 t405, .slice Ao15 t406.length co15] 42 (0, 0)) (bk_ BK409.out) hb); have n5_ := iC.mk (iK (by repeat (first | (with_reducible first | exact HB.out | apply iF | apply iD | apply iG | refine iE ?_ GE404.out | refine iE ?_ GE409.out) | exact HB.out)) hb); clear HO_11; clear HO_12; clear HO_410001; clear BK404; clear BK409; clear HB; have HO_11 := n0_; have HO_12 := n1_; have HO_410001 := n2_; have BK404 := n3_; have BK409 := n4_; have HB := n5_; clear n0_ n1_ n2_ n3_ n4_ n5_; (try clear hb); (try clear hb2); (try clear hk); (try clear hi); have hnb75 := NB409_404.out; have hnc75 := NB404_409.out; have hcz76_0 : w74.cell? ⟨gb409, 0, none⟩ = some (.int .u32 t405) := (iI BK409.out 0).trans rfl; have hcz76_1 : w74.cell? ⟨gb409, 1, none⟩ = some (.slice Ao15 t406.length co15) := (iI BK409.out 1).trans rfl; have hfz76_0 := iH BK409.out 0; have hfz76_1 := iH BK409.out 1) | (go_at_call 28; (with_reducible refine (spans_Nodes.calls t405 _ _ t406 (Int.tmod (wrap64 (a1_0)) 200) (Int.tmod (wrap64 (a1_0)) 200) t432 _ ?side1 ?side2 A71.out).mono ?_); (case side1 => repeat (first | exact (Kd.R_reads' HO_410001.out).2.2 | (with_reducible refine Kd.C_alloc ?_ _) | (with_reducible refine Kd.C_drewN ?_ _) | (with_reducible refine Kd.C_drew ?_))); (case side2 => exact (Kd.R_reads' HO_410001.out).2.1); rintro e w77 ⟨v433, rfl, ho0, hb⟩; have n0_ := iC.mk (Kd.R_elder' (by (with_reducible repeat (first | apply Kd.R_alloc | apply Kd.R_drewN | apply Kd.R_drew)); exact HO_11.out) (Kd.R_base ho0) hb); have n1_ := iC.mk (Kd.R_elder' (by (with_reducible repeat (first | apply Kd.R_alloc | apply Kd.R_drewN | apply Kd.R_drew)); exact HO_12.out) (Kd.R_base ho0) hb); have n2_ := iC.mk (Kd.R_below (by (with_reducible repeat (first | apply Kd.R_alloc | apply Kd.R_drewN | apply Kd.R_drew)); exact HO_410001.out) hb); have n3_ := iC.mk (Kd.R_lower (Kd.R_new' (Kd.R_new' ho0 (Kd.R_lt (by (with_reducible repeat (first | apply Kd.R_alloc | apply Kd.R_drewN | apply Kd.R_drew)); exact HO_11.out))) (Kd.R_lt (by (with_reducible repeat (first | apply Kd.R_alloc | apply Kd.R_drewN | apply Kd.R_drew)); exact HO_12.out))) (iJ (by repeat (first | (with_reducible first | exact HB.out | apply iF | apply iD | apply iG | refine iE ?_ GE404.out | refine iE ?_ GE409.out) | exact HB.out)))); have n4_ := iC.mk (iP (g := gb404) (o := .cells #[.int .u16 a1_0, .int .u16 a1_1, .int .u8 a1_2] 55 (0, 0)) (bk_ BK404.out) hb); have n5_ := iC.mk (iP (g := gb409) (o := .cells #[.int .u32 t405, .slice Ao15 t406.length co15] 42 (0, 0)) (bk_ BK409.out) hb); have n6_ := iC.mk (iK (by repeat (first | (with_reducible first | exact HB.out | apply iF | apply iD | apply iG | refine iE ?_ GE404.out | refine iE ?_ GE409.out) | exact HB.out)) hb); clear HO_11; clear HO_12; clear HO_410001; clear BK404; clear BK409; clear HB; have HO_11 := n0_; have HO_12 := n1_; have HO_410001 := n2_; have HO434 := n3_; have BK404 := n4_; have BK409 := n5_; have HB := n6_; clear n0_ n1_ n2_ n3_ n4_ n5_ n6_; (try clear hb); (try clear hb2); (try clear hk); (try clear hi); (try clear ho0); obtain ⟨Ao78, co78, eo78⟩ := Kd.R_slice HO434.out; subst eo78))
                      go_ret
                      exact ⟨by first | rfl | (simp [iU, iV] <;> rfl) | (simp [*, iU, iV] <;> rfl), by repeat (first | (with_reducible first | exact HB.out | apply iF | apply iD | apply iG | refine iE ?_ GE404.out | refine iE ?_ GE409.out) | exact HB.out)⟩
                    · rw [if_neg c72] at H
                      have c72b0 : ((t432.length : Int) == 0) = false := beq_eq_false_iff_ne.mpr c72
                      have c72b1 : ((t432.length : Int) != 0) = true := bne_iff_ne.mpr c72
                      have c72b2 : ¬ (t432 = []) := fun h_ => c72 (by rw [h_]; rfl)
                      obtain rfl := Option.some.inj H
                      obtain ⟨Ao79, co79, eo79⟩ := Kd.R_slice HO_12.out
                      subst eo79
                      go_wp2_with (first | ((with_reducible refine iW (f := 29) rfl ?_); refine jH (some 103) rfl rfl Try.func29 (by kernel_rfl) rfl #[] rfl (by (try simp only [List.map_toArray, List.map_cons, List.map_nil]); first | done | rfl | (simp only [List.length_drop, List.length_take]; rfl)) ?_; (with_reducible refine (stratumlaw12_known.calls k2  true _ A69.out).mono ?_); rintro e w80 ⟨rfl, hb⟩; refine ⟨_, rfl, ?_⟩; have n0_ := iC.mk (Kd.R_below (by (with_reducible repeat (first | apply Kd.R_alloc | apply Kd.R_drewN | apply Kd.R_drew)); exact HO_11.out) hb); have n1_ := iC.mk (Kd.R_below (by (with_reducible repeat (first | apply Kd.R_alloc | apply Kd.R_drewN | apply Kd.R_drew)); exact HO_12.out) hb); have n2_ := iC.mk (Kd.R_below (by (with_reducible repeat (first | apply Kd.R_alloc | apply Kd.R_drewN | apply Kd.R_drew)); exact HO_410001.out) hb); have n3_ := iC.mk (iP (g := gb404) (o := .cells #[.int .u16 a1_0, .int .u16 a1_1, .int .u8 a1_2] 55 (0, 0)) (bk_ BK404.out) hb); have n4_ := iC.mk (iP (g := gb409) (o := .cells #[.int .u32 t405, .slice Ao15 t406.length co15] 42 (0, 0)) (bk_ BK409.out) hb); have n5_ := iC.mk (iK (by repeat (first | (with_reducible first | exact HB.out | apply iF | apply iD | apply iG | refine iE ?_ GE404.out | refine iE ?_ GE409.out) | exact HB.out)) hb); clear HO_11; clear HO_12; clear HO_410001; clear BK404; clear BK409; clear HB; have HO_11 := n0_; have HO_12 := n1_; have HO_410001 := n2_; have BK404 := n3_; have BK409 := n4_; have HB := n5_; clear n0_ n1_ n2_ n3_ n4_ n5_; (try clear hb); (try clear hb2); (try clear hk); (try clear hi); have hnb81 := NB409_404.out; have hnc81 := NB404_409.out; have hcz82_0 : w80.cell? ⟨gb409, 0, none⟩ = some (.int .u32 t405) := (iI BK409.out 0).trans rfl; have hcz82_1 : w80.cell? ⟨gb409, 1, none⟩ = some (.slice Ao15 t406.length co15) := (iI BK409.out 1).trans rfl; have hfz82_0 := iH BK409.out 0; have hfz82_1 := iH BK409.out 1) | (go_at_call 28; (with_reducible refine (spans_Nodes.calls t405 _ _ t406 (Int.tmod (wrap64 (a1_0)) 200) (Int.tmod (wrap64 (a1_0)) 200) t432 _ ?side1 ?side2 A71.out).mono ?_); (case side1 => repeat (first | exact (Kd.R_reads' HO_410001.out).2.2 | (with_reducible refine Kd.C_alloc ?_ _) | (with_reducible refine Kd.C_drewN ?_ _) | (with_reducible refine Kd.C_drew ?_))); (case side2 => exact (Kd.R_reads' HO_410001.out).2.1); rintro e w83 ⟨v433, rfl, ho0, hb⟩; have n0_ := iC.mk (Kd.R_elder' (by (with_reducible repeat (first | apply Kd.R_alloc | apply Kd.R_drewN | apply Kd.R_drew)); exact HO_11.out) (Kd.R_base ho0) hb); have n1_ := iC.mk (Kd.R_elder' (by (with_reducible repeat (first | apply Kd.R_alloc | apply Kd.R_drewN | apply Kd.R_drew)); exact HO_12.out) (Kd.R_base ho0) hb); have n2_ := iC.mk (Kd.R_below (by (with_reducible repeat (first | apply Kd.R_alloc | apply Kd.R_drewN | apply Kd.R_drew)); exact HO_410001.out) hb); have n3_ := iC.mk (Kd.R_lower (Kd.R_new' (Kd.R_new' ho0 (Kd.R_lt (by (with_reducible repeat (first | apply Kd.R_alloc | apply Kd.R_drewN | apply Kd.R_drew)); exact HO_11.out))) (Kd.R_lt (by (with_reducible repeat (first | apply Kd.R_alloc | apply Kd.R_drewN | apply Kd.R_drew)); exact HO_12.out))) (iJ (by repeat (first | (with_reducible first | exact HB.out | apply iF | apply iD | apply iG | refine iE ?_ GE404.out | refine iE ?_ GE409.out) | exact HB.out)))); have n4_ := iC.mk (iP (g := gb404) (o := .cells #[.int .u16 a1_0, .int .u16 a1_1, .int .u8 a1_2] 55 (0, 0)) (bk_ BK404.out) hb); have n5_ := iC.mk (iP (g := gb409) (o := .cells #[.int .u32 t405, .slice Ao15 t406.length co15] 42 (0, 0)) (bk_ BK409.out) hb); have n6_ := iC.mk (iK (by repeat (first | (with_reducible first | exact HB.out | apply iF | apply iD | apply iG | refine iE ?_ GE404.out | refine iE ?_ GE409.out) | exact HB.out)) hb); clear HO_11; clear HO_12; clear HO_410001; clear BK404; clear BK409; clear HB; have HO_11 := n0_; have HO_12 := n1_; have HO_410001 := n2_; have HO434 := n3_; have BK404 := n4_; have BK409 := n5_; have HB := n6_; clear n0_ n1_ n2_ n3_ n4_ n5_ n6_; (try clear hb); (try clear hb2); (try clear hk); (try clear hi); (try clear ho0); obtain ⟨Ao84, co84, eo84⟩ := Kd.R_slice HO434.out; subst eo84))
                      go_ret
                      exact ⟨by first | rfl | (simp [iU, iV] <;> rfl) | (simp [*, iU, iV] <;> rfl), by repeat (first | (with_reducible first | exact HB.out | apply iF | apply iD | apply iG | refine iE ?_ GE404.out | refine iE ?_ GE409.out) | exact HB.out)⟩
                  · replace c70 := Bool.eq_false_iff.mpr c70
                    subst c70
                    have H1 : (some false) = some r := by rw [if_neg (show ¬ (false = true) by decide)] at H; exact H
                    clear H
                    have H := H1
                    clear H1
                    obtain rfl := Option.some.inj H
                    obtain ⟨Ao85, co85, eo85⟩ := Kd.R_slice HO_12.out
                    subst eo85
                    go_wp2_with (first | ((with_reducible refine iW (f := 29) rfl ?_); refine jH (some 103) rfl rfl Try.func29 (by kernel_rfl) rfl #[] rfl (by (try simp only [List.map_toArray, List.map_cons, List.map_nil]); first | done | rfl | (simp only [List.length_drop, List.length_take]; rfl)) ?_; (with_reducible refine (stratumlaw12_known.calls k2  false _ A69.out).mono ?_); rintro e w86 ⟨rfl, hb⟩; refine ⟨_, rfl, ?_⟩; have n0_ := iC.mk (Kd.R_below (by (with_reducible repeat (first | apply Kd.R_alloc | apply Kd.R_drewN | apply Kd.R_drew)); exact HO_11.out) hb); have n1_ := iC.mk (Kd.R_below (by (with_reducible repeat (first | apply Kd.R_alloc | apply Kd.R_drewN | apply Kd.R_drew)); exact HO_12.out) hb); have n2_ := iC.mk (Kd.R_below (by (with_reducible repeat (first | apply Kd.R_alloc | apply Kd.R_drewN | apply Kd.R_drew)); exact HO_410001.out) hb); have n3_ := iC.mk (iP (g := gb404) (o := .cells #[.int .u16 a1_0, .int .u16 a1_1, .int .u8 a1_2] 55 (0, 0)) (bk_ BK404.out) hb); have n4_ := iC.mk (iP (g := gb409) (o := .cells #[.int .u32 t405, .slice Ao15 t406.length co15] 42 (0, 0)) (bk_ BK409.out) hb); have n5_ := iC.mk (iK (by repeat (first | (with_reducible first | exact HB.out | apply iF | apply iD | apply iG | refine iE ?_ GE404.out | refine iE ?_ GE409.out) | exact HB.out)) hb); clear HO_11; clear HO_12; clear HO_410001; clear BK404; clear BK409; clear HB; have HO_11 := n0_; have HO_12 := n1_; have HO_410001 := n2_; have BK404 := n3_; have BK409 := n4_; have HB := n5_; clear n0_ n1_ n2_ n3_ n4_ n5_; (try clear hb); (try clear hb2); (try clear hk); (try clear hi)))
                    go_ret
                    exact ⟨by first | rfl | (simp [iU, iV] <;> rfl) | (simp [*, iU, iV] <;> rfl), by repeat (first | (with_reducible first | exact HB.out | apply iF | apply iD | apply iG | refine iE ?_ GE404.out | refine iE ?_ GE409.out) | exact HB.out)⟩
end Go.Proofs.Ytbpdejbkfpkphaa.K
end
