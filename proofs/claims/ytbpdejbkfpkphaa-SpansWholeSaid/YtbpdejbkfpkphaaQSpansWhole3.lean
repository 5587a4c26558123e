/- Parts of the proof, one behind the other: K31, K1, K32, K33. -/
import Derived.Test.YtbpdejbkfpkphaaQSpansWhole2
set_option linter.unusedVariables false
set_option linter.unusedSimpArgs false
section
namespace Go.Proofs.Ytbpdejbkfpkphaa.K
open Go.RowKit Go.Proofs.YtbpdejbkfpkphaaW.PrintWords Go.Proofs.YtbpdejbkfpkphaaW.PrintLast Go.Proofs.YtbpdejbkfpkphaaW.PrintMore
attribute [local go_sem] jU jT jZ jY jO jP jW jV
mutual
def spans_Split.j0 : Nat → Int → Int → Int → Int → Bool → Int → List (S60) → Option (Int × (List (S60)) × Int)
  | 0, _, _, _, _, _, _, _ => none
  | k + 1, x1, x3, x4, x5, x51, x229000, x229001 => if x51 = true then (some (0, ([] : List (S60)), 120)) else ((spans_Nodes.f x229000 x229001 x3 x4).bind fun t231 => ((slices_Equal_int_int.f k t231 (([x5] : List Int))).bind fun t237 => (if t237 = true then (some (0, ([] : List (S60)), 120)) else (spans_Split.l0 k x1 x3 x4 x5 ([] : List (S60)) x229001 (x229001.length : Int) 0 x229000 x229001))))
def spans_Split.l0 : Nat → Int → Int → Int → Int → List (S60) → List (S60) → Int → Int → Int → List (S60) → Option (Int × (List (S60)) × Int)
  | 0, _, _, _, _, _, _, _, _, _, _ => none
  | k + 1, x1, x3, x4, x5, x14, x62, x63, x64, x229000, x229001 => if x64 < x63 then (if 0 ≤ x64 then (if x64 < (x62.length : Int) then (if ((iT x62 x64).f0) < x3 then (if x14.length < 8796093022208 then (spans_Split.l0 k x1 x3 x4 x5 (x14 ++ [(⟨(iT x62 x64).f0, (iT x62 x64).f1⟩ : S60)]) x62 x63 (wrap64 (x64 + 1)) x229000 x229001) else (none)) else (spans_Split.l0 k x1 x3 x4 x5 x14 x62 x63 (wrap64 (x64 + 1)) x229000 x229001)) else (none)) else (none)) else (if x14.length < 8796093022208 then ((some (x14 ++ [(⟨x3, x5⟩ : S60)] : List (S60))).bind fun y243 => (if x4 < x1 then ((spans_Find.f x229000 x229001 x4).bind fun t246 => (if y243.length < 8796093022208 then (spans_Split.j2 k x4 (y243 ++ [(⟨x4, t246⟩ : S60)]) x229000 x229001) else (none))) else (spans_Split.j2 k x4 y243 x229000 x229001))) else (none))
def spans_Split.j2 : Nat → Int → List (S60) → Int → List (S60) → Option (Int × (List (S60)) × Int)
  | 0, _, _, _, _ => none
  | k + 1, x4, x14, x229000, x229001 => spans_Split.l1 k x4 x14 x229001 (x229001.length : Int) 0 x229000 x229001
def spans_Split.l1 : Nat → Int → List (S60) → List (S60) → Int → Int → Int → List (S60) → Option (Int × (List (S60)) × Int)
  | 0, _, _, _, _, _, _, _ => none
  | k + 1, x4, x14, x95, x96, x97, x229000, x229001 => if x97 < x96 then (if 0 ≤ x97 then (if x97 < (x95.length : Int) then (if ((iT x95 x97).f0) > x4 then (if x14.length < 8796093022208 then (spans_Split.l1 k x4 (x14 ++ [(⟨(iT x95 x97).f0, (iT x95 x97).f1⟩ : S60)]) x95 x96 (wrap64 (x97 + 1)) x229000 x229001) else (none)) else (spans_Split.l1 k x4 x14 x95 x96 (wrap64 (x97 + 1)) x229000 x229001)) else (none)) else (none)) else ((spans_glued.f x14).bind fun t255 => (if (t255.length : Int) > 40 then (some (0, ([] : List (S60)), 3)) else (some ((x229000 + 1) % 4294967296, t255, 0))))
end
def spans_Split.f (k : Nat) (a0_0 : Int) (l0_1 : List (S60)) (a1 : Int) (a2 : Int) (a3 : Int) (a4 : Int) (a5 : Int) : Option (Int × (List (S60)) × Int) := (spans_Sound.f k a0_0 l0_1 a1 a2).bind fun t230 => (if t230 = true then (if a1 > 10000 then (spans_Split.j0 k a1 a3 a4 a5 true a0_0 l0_1) else (if a3 < 0 then (spans_Split.j0 k a1 a3 a4 a5 true a0_0 l0_1) else (if a3 ≥ a4 then (spans_Split.j0 k a1 a3 a4 a5 true a0_0 l0_1) else (if a4 > a1 then (spans_Split.j0 k a1 a3 a4 a5 true a0_0 l0_1) else (if a5 < 0 then (spans_Split.j0 k a1 a3 a4 a5 true a0_0 l0_1) else (spans_Split.j0 k a1 a3 a4 a5 (decide (a5 ≥ (mn a2 6))) a0_0 l0_1)))))) else (spans_Split.j0 k a1 a3 a4 a5 true a0_0 l0_1))
theorem spans_Split.mono_l : ∀ k, (∀ y0 y1 y2 y3 y4 y5 y6, LeO (spans_Split.j0 k y0 y1 y2 y3 y4 y5 y6) (spans_Split.j0 (k + 1) y0 y1 y2 y3 y4 y5 y6)) ∧ (∀ y0 y1 y2 y3 y4 y5 y6 y7 y8 y9, LeO (spans_Split.l0 k y0 y1 y2 y3 y4 y5 y6 y7 y8 y9) (spans_Split.l0 (k + 1) y0 y1 y2 y3 y4 y5 y6 y7 y8 y9)) ∧ (∀ y0 y1 y2 y3, LeO (spans_Split.j2 k y0 y1 y2 y3) (spans_Split.j2 (k + 1) y0 y1 y2 y3)) ∧ (∀ y0 y1 y2 y3 y4 y5 y6, LeO (spans_Split.l1 k y0 y1 y2 y3 y4 y5 y6) (spans_Split.l1 (k + 1) y0 y1 y2 y3 y4 y5 y6))
  | 0 => ⟨fun _ _ _ _ _ _ _ r h => by simp [spans_Split.j0] at h, fun _ _ _ _ _ _ _ _ _ _ r h => by simp [spans_Split.l0] at h, fun _ _ _ _ r h => by simp [spans_Split.j2] at h, fun _ _ _ _ _ _ _ r h => by simp [spans_Split.l1] at h⟩
  | k + 1 => by
    obtain ⟨ih0, ih1, ih2, ih3⟩ := spans_Split.mono_l k
    refine ⟨?_, ?_, ?_, ?_⟩
    · intro y0 y1 y2 y3 y4 y5 y6
      unfold spans_Split.j0
      repeat' first
      | (with_reducible exact ih0 _ _ _ _ _ _ _)
      | (with_reducible exact ih1 _ _ _ _ _ _ _ _ _ _)
      | (with_reducible exact ih2 _ _ _ _)
      | (with_reducible exact ih3 _ _ _ _ _ _ _)
      | (with_reducible exact slices_Equal_int_int.mono _ _ _)
      | (with_reducible exact spans_Sound.mono _ _ _ _ _)
      | (with_reducible exact LeO.refl _)
      | (with_reducible exact LeO.none _)
      | (with_reducible refine LeO.ite ?_ ?_)
      | (with_reducible refine LeO.bind ?_ (fun _ => ?_))
      | exact ih0 _ _ _ _ _ _ _
      | exact ih1 _ _ _ _ _ _ _ _ _ _
      | exact ih2 _ _ _ _
      | exact ih3 _ _ _ _ _ _ _
      | exact slices_Equal_int_int.mono _ _ _
      | exact spans_Sound.mono _ _ _ _ _
      | exact LeO.none _
      | refine LeO.ite ?_ ?_
      | refine LeO.bind ?_ (fun _ => ?_)
    · intro y0 y1 y2 y3 y4 y5 y6 y7 y8 y9
      unfold spans_Split.l0
      repeat' first
      | (with_reducible exact ih0 _ _ _ _ _ _ _)
      | (with_reducible exact ih1 _ _ _ _ _ _ _ _ _ _)
      | (with_reducible exact ih2 _ _ _ _)
      | (with_reducible exact ih3 _ _ _ _ _ _ _)
      | (with_reducible exact slices_Equal_int_int.mono _ _ _)
      | (with_reducible exact spans_Sound.mono _ _ _ _ _)
      | (with_reducible exact LeO.refl _)
      | (with_reducible exact LeO.none _)
      | (with_reducible refine LeO.ite ?_ ?_)
      | (with_reducible refine LeO.bind ?_ (fun _ => ?_))
      | exact ih0 _ _ _ _ _ _ _
      | exact ih1 _ _ _ _ _ _ _ _ _ _
      | exact ih2 _ _ _ _
      | exact ih3 _ _ _ _ _ _ _
      | exact slices_Equal_int_int.mono _ _ _
      | exact spans_Sound.mono _ _ _ _ _
      | exact LeO.none _
      | refine LeO.ite ?_ ?_
      | refine LeO.bind ?_ (fun _ => ?_)
    · intro y0 y1 y2 y3
      unfold spans_Split.j2
      repeat' first
      | (with_reducible exact ih0 _ _ _ _ _ _ _)
      | (with_reducible exact ih1 _ _ _ _ _ _ _ _ _ _)
      | (with_reducible exact ih2 _ _ _ _)
      | (with_reducible exact ih3 _ _ _ _ _ _ _)
      | (with_reducible exact slices_Equal_int_int.mono _ _ _)
      | (with_reducible exact spans_Sound.mono _ _ _ _ _)
      | (with_reducible exact LeO.refl _)
      | (with_reducible exact LeO.none _)
      | (with_reducible refine LeO.ite ?_ ?_)
      | (with_reducible refine LeO.bind ?_ (fun _ => ?_))
      | exact ih0 _ _ _ _ _ _ _
      | exact ih1 _ _ _ _ _ _ _ _ _ _
      | exact ih2 _ _ _ _
      | exact ih3 _ _ _ _ _ _ _
      | exact slices_Equal_int_int.mono _ _ _
      | exact spans_Sound.mono _ _ _ _ _
      | exact LeO.none _
      | refine LeO.ite ?_ ?_
      | refine LeO.bind ?_ (fun _ => ?_)
    · intro y0 y1 y2 y3 y4 y5 y6
      unfold spans_Split.l1
      repeat' first
      | (with_reducible exact ih0 _ _ _ _ _ _ _)
      | (with_reducible exact ih1 _ _ _ _ _ _ _ _ _ _)
      | (with_reducible exact ih2 _ _ _ _)
      | (with_reducible exact ih3 _ _ _ _ _ _ _)
      | (with_reducible exact slices_Equal_int_int.mono _ _ _)
      | (with_reducible exact spans_Sound.mono _ _ _ _ _)
      | (with_reducible exact LeO.refl _)
      | (with_reducible exact LeO.none _)
      | (with_reducible refine LeO.ite ?_ ?_)
      | (with_reducible refine LeO.bind ?_ (fun _ => ?_))
      | exact ih0 _ _ _ _ _ _ _
      | exact ih1 _ _ _ _ _ _ _ _ _ _
      | exact ih2 _ _ _ _
      | exact ih3 _ _ _ _ _ _ _
      | exact slices_Equal_int_int.mono _ _ _
      | exact spans_Sound.mono _ _ _ _ _
      | exact LeO.none _
      | refine LeO.ite ?_ ?_
      | refine LeO.bind ?_ (fun _ => ?_)
theorem spans_Split.mono : ∀ a0 a1 a2 a3 a4 a5 a6 k, LeO (spans_Split.f k a0 a1 a2 a3 a4 a5 a6) (spans_Split.f (k + 1) a0 a1 a2 a3 a4 a5 a6) := by
  intro a0 a1 a2 a3 a4 a5 a6 k
  obtain ⟨ih0, ih1, ih2, ih3⟩ := spans_Split.mono_l k
  unfold spans_Split.f
  repeat' first
      | (with_reducible exact ih0 _ _ _ _ _ _ _)
      | (with_reducible exact ih1 _ _ _ _ _ _ _ _ _ _)
      | (with_reducible exact ih2 _ _ _ _)
      | (with_reducible exact ih3 _ _ _ _ _ _ _)
      | (with_reducible exact slices_Equal_int_int.mono _ _ _)
      | (with_reducible exact spans_Sound.mono _ _ _ _ _)
      | (with_reducible exact LeO.refl _)
      | (with_reducible exact LeO.none _)
      | (with_reducible refine LeO.ite ?_ ?_)
      | (with_reducible refine LeO.bind ?_ (fun _ => ?_))
      | exact ih0 _ _ _ _ _ _ _
      | exact ih1 _ _ _ _ _ _ _ _ _ _
      | exact ih2 _ _ _ _
      | exact ih3 _ _ _ _ _ _ _
      | exact slices_Equal_int_int.mono _ _ _
      | exact spans_Sound.mono _ _ _ _ _
      | exact LeO.none _
      | refine LeO.ite ?_ ?_
      | refine LeO.bind ?_ (fun _ => ?_)
set_option maxHeartbeats 8000000 in
set_option maxRecDepth 100000 in
theorem spans_Split.calls (k : Nat) (a0_0 : Int) (A0_1 : Option Addr) (c0_1 : Nat) (l0_1 : List (S60)) (a1 : Int) (a2 : Int) (a3 : Int) (a4 : Int) (a5 : Int) (r1 : Int) (r2 : List (S60)) (r3 : Int) (w : World) (hr0_1 : Kd.C k60 w A0_1 l0_1.length l0_1) (hc0_1 : l0_1.length ≤ c0_1) (h : spans_Split.f k a0_0 l0_1 a1 a2 a3 a4 a5 = some (r1, r2, r3)) :
    Calls Try.prog 30 #[.agg #[.int .u32 a0_0, .slice A0_1 l0_1.length c0_1], .int .i64 a1, .int .i64 a2, .int .i64 a3, .int .i64 a4, .int .i64 a5] w fun e w' => ∃ v1_ : Value, e = .returned (.tuple #[.agg #[.int .u32 r1, v1_], .int .u16 r3]) ∧ Kd.R k60 60 w' w.heap.size (fun _ => True) v1_ r2 ∧ Below w.heap.size w w' := by
  have hu42 := Try.underlying42
  have hu60 := Try.underlying60
  have HR0_1 := iC.mk hr0_1
  have HC0_1 := iC.mk hc0_1
  clear hr0_1 hc0_1
  have HB := iC.mk (Below.refl w.heap.size w)
  have H : ((spans_Sound.f k a0_0 l0_1 a1 a2).bind fun t230 => (if t230 = true then (if a1 > 10000 then (spans_Split.j0 k a1 a3 a4 a5 true a0_0 l0_1) else (if a3 < 0 then (spans_Split.j0 k a1 a3 a4 a5 true a0_0 l0_1) else (if a3 ≥ a4 then (spans_Split.j0 k a1 a3 a4 a5 true a0_0 l0_1) else (if a4 > a1 then (spans_Split.j0 k a1 a3 a4 a5 true a0_0 l0_1) else (if a5 < 0 then (spans_Split.j0 k a1 a3 a4 a5 true a0_0 l0_1) else (spans_Split.j0 k a1 a3 a4 a5 (decide (a5 ≥ (mn a2 6))) a0_0 l0_1)))))) else (spans_Split.j0 k a1 a3 a4 a5 true a0_0 l0_1))) = some (r1, r2, r3) := h
  clear h
  have HC7 := iC.mk H
  clear H
  go_enter Try.func30, Try.ntmps30
  go_upto_region 1 with (first | ((with_reducible refine jC (N := 6) rfl ?_); (try (refine iW (by rfl) ?_; dsimp only)); refine jA ?hg (N := 6) ?hd (cs := #[.int .u32 a0_0, .slice A0_1 l0_1.length c0_1]) (t := 42) ?hr ?_; (case hd => rfl); (case hg => rfl); (case hr => first | (go_simp; done) | (go_simp; rfl)); intro gb228 hg w8 hbox hb; have n0_ := iC.mk (iK hb_ hb); have n1_ := iC.mk (hbox); have n2_ := iC.mk ((by rw [hg]; exact (iJ hb_) : w.heap.size ≤ gb228)); have n3_ := iC.mk ((by rw [hg]; exact (iJ hb_) : w.heap.size ≤ gb228)); clear HB; have HB := n0_; have BK228 := n1_; have GW228 := n2_; have GE228 := n3_; clear n0_ n1_ n2_ n3_; clear hb hbox hg) | ((with_reducible refine jC (N := 12) rfl ?_); (try (refine iW (by rfl) ?_; dsimp only)); refine jA ?hg (N := 12) ?hd (cs := #[.int .u32 0, .slice none 0 0]) (t := 42) ?hr ?_; (case hd => rfl); (case hg => rfl); (case hr => first | (go_simp; done) | (go_simp; rfl)); intro gb229 hg w9 hbox hb; have n0_ := iC.mk (iP (g := gb228) (o := .cells #[.int .u32 a0_0, .slice A0_1 l0_1.length c0_1] 42 (0, 0)) (bk_ BK228.out) hb); have n1_ := iC.mk (iK (by repeat (first | (with_reducible first | exact HB.out | apply iF | apply iD | apply iG | refine iE ?_ GE228.out) | exact HB.out)) hb); have n2_ := iC.mk (hbox); have n3_ := iC.mk ((by rw [hg]; exact (iJ (by repeat (first | (with_reducible first | exact HB.out | apply iF | apply iD | apply iG | refine iE ?_ GE228.out) | exact HB.out))) : w.heap.size ≤ gb229)); have n4_ := iC.mk ((by rw [hg]; exact (iJ (by repeat (first | (with_reducible first | exact HB.out | apply iF | apply iD | apply iG | refine iE ?_ GE228.out) | exact HB.out))) : w.heap.size ≤ gb229)); have n5_ := iC.mk ((by rw [hg]; exact Nat.ne_of_lt (jE (g := gb228) (o := .cells #[.int .u32 a0_0, .slice A0_1 l0_1.length c0_1] 42 (0, 0)) (bk_ BK228.out)) : gb228 ≠ gb229)); have n6_ := iC.mk ((by rw [hg]; exact Nat.ne_of_gt (jE (g := gb228) (o := .cells #[.int .u32 a0_0, .slice A0_1 l0_1.length c0_1] 42 (0, 0)) (bk_ BK228.out)) : gb229 ≠ gb228)); clear BK228; clear HB; have BK228 := n0_; have HB := n1_; have BK229 := n2_; have GW229 := n3_; have GE229 := n4_; have NB228_229 := n5_; have NB229_228 := n6_; clear n0_ n1_ n2_ n3_ n4_ n5_ n6_; clear hb hbox hg))
  (try simp only [Act.put, List.setIfInBounds_toArray, List.set_cons_zero, List.set_cons_succ])
  go_cut [51] (fun v51 wc => ∃ (kq : Nat) (x51_6 : Bool), v51 = .bool x51_6 ∧ iC (spans_Split.j0 kq a1 a3 a4 a5 x51_6 a0_0 l0_1 = some (r1, r2, r3)) ∧ iC (kq ≤ k) ∧ iC (wc.heap[gb228]? = some (.cells #[.int .u32 a0_0, (.slice A0_1 l0_1.length c0_1)] 42 (0, 0))) ∧ iC (wc.heap[gb229]? = some (.cells #[.int .u32 0, (.slice none 0 0)] 42 (0, 0))) ∧ iC (Below w.heap.size w wc))
  case first =>
    have H := HC7.out
    clear HC7
    replace H := Option.bind_eq_some_iff.mp H
    obtain ⟨t230, A100, H⟩ := H
    replace H : (if t230 = true then (if a1 > 10000 then (spans_Split.j0 k a1 a3 a4 a5 true a0_0 l0_1) else (if a3 < 0 then (spans_Split.j0 k a1 a3 a4 a5 true a0_0 l0_1) else (if a3 ≥ a4 then (spans_Split.j0 k a1 a3 a4 a5 true a0_0 l0_1) else (if a4 > a1 then (spans_Split.j0 k a1 a3 a4 a5 true a0_0 l0_1) else (if a5 < 0 then (spans_Split.j0 k a1 a3 a4 a5 true a0_0 l0_1) else (spans_Split.j0 k a1 a3 a4 a5 (decide (a5 ≥ (mn a2 6))) a0_0 l0_1)))))) else (spans_Split.j0 k a1 a3 a4 a5 true a0_0 l0_1)) = some (r1, r2, r3) := H
    have A10 := iC.mk A100
    clear A100
    by_cases c11 : t230 = true
    · subst c11
      have H1 : (if a1 > 10000 then (spans_Split.j0 k a1 a3 a4 a5 true a0_0 l0_1) else (if a3 < 0 then (spans_Split.j0 k a1 a3 a4 a5 true a0_0 l0_1) else (if a3 ≥ a4 then (spans_Split.j0 k a1 a3 a4 a5 true a0_0 l0_1) else (if a4 > a1 then (spans_Split.j0 k a1 a3 a4 a5 true a0_0 l0_1) else (if a5 < 0 then (spans_Split.j0 k a1 a3 a4 a5 true a0_0 l0_1) else (spans_Split.j0 k a1 a3 a4 a5 (decide (a5 ≥ (mn a2 6))) a0_0 l0_1)))))) = some (r1, r2, r3) := by rw [if_pos rfl] at H; exact H
      clear H
      have H := H1
      clear H1
      by_cases c12 : a1 > 10000
      · rw [if_pos c12] at H
        have c12b0 : decide (10000 < a1) = true := decide_eq_true c12
        clear c12
        (first | rw [c12b0] | (simp only [iY, iZ]; rw [c12b0]) | skip)
        have H' := iC.mk H
        clear H
        have hnb13 := NB228_229.out
        have hnc13 := NB229_228.out
        have hcz14_0 : w9.cell? ⟨gb228, 0, none⟩ = some (.int .u32 a0_0) := (iI BK228.out 0).trans rfl
        have hcz14_1 : w9.cell? ⟨gb228, 1, none⟩ = some (.slice A0_1 l0_1.length c0_1) := (iI BK228.out 1).trans rfl
        have hfz14_0 := iH BK228.out 0
        have hfz14_1 := iH BK228.out 1
        go_wp2_with (first | ((with_reducible refine iU (f := 33) rfl ?_); refine jJ (some 22) rfl rfl Try.func33 (by kernel_rfl) rfl #[.agg #[.int .u32 a0_0, .slice A0_1 l0_1.length c0_1], .int .i64 a1, .int .i64 a2] rfl (by (try simp only [List.map_toArray, List.map_cons, List.map_nil]); first | done | rfl | (simp only [List.length_drop, List.length_take]; rfl)) ?_; (with_reducible refine (spans_Sound.calls k a0_0 _ _ l0_1 a1 a2 true _ ?side1 ?side2 A10.out).mono ?_); (case side1 => repeat (first | exact (Kd.C_below HR0_1.out HB.out) | (with_reducible refine Kd.C_alloc ?_ _) | (with_reducible refine Kd.C_drewN ?_ _) | (with_reducible refine Kd.C_drew ?_))); (case side2 => exact HC0_1.out); rintro e w15 ⟨rfl, hb⟩; refine ⟨_, rfl, ?_⟩; have n0_ := iC.mk (iP (g := gb228) (o := .cells #[.int .u32 a0_0, .slice A0_1 l0_1.length c0_1] 42 (0, 0)) (bk_ BK228.out) hb); have n1_ := iC.mk (iP (g := gb229) (o := .cells #[.int .u32 0, .slice none 0 0] 42 (0, 0)) (bk_ BK229.out) hb); have n2_ := iC.mk (iK (by repeat (first | (with_reducible first | exact HB.out | apply iF | apply iD | apply iG | refine iE ?_ GE228.out | refine iE ?_ GE229.out) | exact HB.out)) hb); clear BK228; clear BK229; clear HB; have BK228 := n0_; have BK229 := n1_; have HB := n2_; clear n0_ n1_ n2_; (try clear hb); (try clear hb2); (try clear hk); (try clear hi)))
        go_meet
        case rel => exact ⟨_, (true), (by first | rfl | (simp; done) | (simp [*]; done)), H', ⟨by first | omega | exact Nat.le_refl _⟩, ⟨bk_ BK228.out⟩, ⟨bk_ BK229.out⟩, ⟨by repeat (first | (with_reducible first | exact HB.out | apply iF | apply iD | apply iG | refine iE ?_ GE228.out | refine iE ?_ GE229.out) | exact HB.out)⟩⟩
      · rw [if_neg c12] at H
        have c12b0 : decide (10000 < a1) = false := decide_eq_false c12
        clear c12
        (first | rw [c12b0] | (simp only [iY, iZ]; rw [c12b0]) | skip)
        by_cases c16 : a3 < 0
        · rw [if_pos c16] at H
          have c16b0 : decide (a3 < 0) = true := decide_eq_true c16
          clear c16
          have H' := iC.mk H
          clear H
          have hnb17 := NB228_229.out
          have hnc17 := NB229_228.out
          have hcz18_0 : w9.cell? ⟨gb228, 0, none⟩ = some (.int .u32 a0_0) := (iI BK228.out 0).trans rfl
          have hcz18_1 : w9.cell? ⟨gb228, 1, none⟩ = some (.slice A0_1 l0_1.length c0_1) := (iI BK228.out 1).trans rfl
          have hfz18_0 := iH BK228.out 0
          have hfz18_1 := iH BK228.out 1
          go_wp2_with (first | ((with_reducible refine iU (f := 33) rfl ?_); refine jJ (some 22) rfl rfl Try.func33 (by kernel_rfl) rfl #[.agg #[.int .u32 a0_0, .slice A0_1 l0_1.length c0_1], .int .i64 a1, .int .i64 a2] rfl (by (try simp only [List.map_toArray, List.map_cons, List.map_nil]); first | done | rfl | (simp only [List.length_drop, List.length_take]; rfl)) ?_; (with_reducible refine (spans_Sound.calls k a0_0 _ _ l0_1 a1 a2 true _ ?side1 ?side2 A10.out).mono ?_); (case side1 => repeat (first | exact (Kd.C_below HR0_1.out HB.out) | (with_reducible refine Kd.C_alloc ?_ _) | (with_reducible refine Kd.C_drewN ?_ _) | (with_reducible refine Kd.C_drew ?_))); (case side2 => exact HC0_1.out); rintro e w19 ⟨rfl, hb⟩; refine ⟨_, rfl, ?_⟩; have n0_ := iC.mk (iP (g := gb228) (o := .cells #[.int .u32 a0_0, .slice A0_1 l0_1.length c0_1] 42 (0, 0)) (bk_ BK228.out) hb); have n1_ := iC.mk (iP (g := gb229) (o := .cells #[.int .u32 0, .slice none 0 0] 42 (0, 0)) (bk_ BK229.out) hb); have n2_ := iC.mk (iK (by repeat (first | (with_reducible first | exact HB.out | apply iF | apply iD | apply iG | refine iE ?_ GE228.out | refine iE ?_ GE229.out) | exact HB.out)) hb); clear BK228; clear BK229; clear HB; have BK228 := n0_; have BK229 := n1_; have HB := n2_; clear n0_ n1_ n2_; (try clear hb); (try clear hb2); (try clear hk); (try clear hi)))
          go_meet
          case rel => exact ⟨_, (true), (by first | rfl | (simp; done) | (simp [*]; done)), H', ⟨by first | omega | exact Nat.le_refl _⟩, ⟨bk_ BK228.out⟩, ⟨bk_ BK229.out⟩, ⟨by repeat (first | (with_reducible first | exact HB.out | apply iF | apply iD | apply iG | refine iE ?_ GE228.out | refine iE ?_ GE229.out) | exact HB.out)⟩⟩
        · rw [if_neg c16] at H
          have c16b0 : decide (a3 < 0) = false := decide_eq_false c16
          clear c16
          by_cases c20 : a3 ≥ a4
          · rw [if_pos c20] at H
            have c20b0 : decide (a4 ≤ a3) = true := decide_eq_true c20
            clear c20
            have H' := iC.mk H
            clear H
            have hnb21 := NB228_229.out
            have hnc21 := NB229_228.out
            have hcz22_0 : w9.cell? ⟨gb228, 0, none⟩ = some (.int .u32 a0_0) := (iI BK228.out 0).trans rfl
            have hcz22_1 : w9.cell? ⟨gb228, 1, none⟩ = some (.slice A0_1 l0_1.length c0_1) := (iI BK228.out 1).trans rfl
            have hfz22_0 := iH BK228.out 0
            have hfz22_1 := iH BK228.out 1
            go_wp2_with (first | ((with_reducible refine iU (f := 33) rfl ?_); refine jJ (some 22) rfl rfl Try.func33 (by kernel_rfl) rfl #[.agg #[.int .u32 a0_0, .slice A0_1 l0_1.length c0_1], .int .i64 a1, .int .i64 a2] rfl (by (try simp only [List.map_toArray, List.map_cons, List.map_nil]); first | done | rfl | (simp only [List.length_drop, List.length_take]; rfl)) ?_; (with_reducible refine (spans_Sound.calls k a0_0 _ _ l0_1 a1 a2 true _ ?side1 ?side2 A10.out).mono ?_); (case side1 => repeat (first | exact (Kd.C_below HR0_1.out HB.out) | (with_reducible refine Kd.C_alloc ?_ _) | (with_reducible refine Kd.C_drewN ?_ _) | (with_reducible refine Kd.C_drew ?_))); (case side2 => exact HC0_1.out); rintro e w23 ⟨rfl, hb⟩; refine ⟨_, rfl, ?_⟩; have n0_ := iC.mk (iP (g := gb228) (o := .cells #[.int .u32 a0_0, .slice A0_1 l0_1.length c0_1] 42 (0, 0)) (bk_ BK228.out) hb); have n1_ := iC.mk (iP (g := gb229) (o := .cells #[.int .u32 0, .slice none 0 0] 42 (0, 0)) (bk_ BK229.out) hb); have n2_ := iC.mk (iK (by repeat (first | (with_reducible first | exact HB.out | apply iF | apply iD | apply iG | refine iE ?_ GE228.out | refine iE ?_ GE229.out) | exact HB.out)) hb); clear BK228; clear BK229; clear HB; have BK228 := n0_; have BK229 := n1_; have HB := n2_; clear n0_ n1_ n2_; (try clear hb); (try clear hb2); (try clear hk); (try clear hi)))
            go_meet
            case rel => exact ⟨_, (true), (by first | rfl | (simp; done) | (simp [*]; done)), H', ⟨by first | omega | exact Nat.le_refl _⟩, ⟨bk_ BK228.out⟩, ⟨bk_ BK229.out⟩, ⟨by repeat (first | (with_reducible first | exact HB.out | apply iF | apply iD | apply iG | refine iE ?_ GE228.out | refine iE ?_ GE229.out) | exact HB.out)⟩⟩
          · rw [if_neg c20] at H
            have c20b0 : decide (a4 ≤ a3) = false := decide_eq_false c20
            clear c20
            by_cases c24 : a4 > a1
            · rw [if_pos c24] at H
              have c24b0 : decide (a1 < a4) = true := decide_eq_true c24
              clear c24
              have H' := iC.mk H
              clear H
              have hnb25 := NB228_229.out
              have hnc25 := NB229_228.out
              have hcz26_0 : w9.cell? ⟨gb228, 0, none⟩ = some (.int .u32 a0_0) := (iI BK228.out 0).trans rfl
              have hcz26_1 : w9.cell? ⟨gb228, 1, none⟩ = some (.slice A0_1 l0_1.length c0_1) := (iI BK228.out 1).trans rfl
              have hfz26_0 := iH BK228.out 0
              have hfz26_1 := iH BK228.out 1
              go_wp2_with (first | ((with_reducible refine iU (f := 33) rfl ?_); refine jJ (some 22) rfl rfl Try.func33 (by kernel_rfl) rfl #[.agg #[.int .u32 a0_0, .slice A0_1 l0_1.length c0_1], .int .i64 a1, .int .i64 a2] rfl (by (try simp only [List.map_toArray, List.map_cons, List.map_nil]); first | done | rfl | (simp only [List.length_drop, List.length_take]; rfl)) ?_; (with_reducible refine (spans_Sound.calls k a0_0 _ _ l0_1 a1 a2 true _ ?side1 ?side2 A10.out).mono ?_); (case side1 => repeat (first | exact (Kd.C_below HR0_1.out HB.out) | (with_reducible refine Kd.C_alloc ?_ _) | (with_reducible refine Kd.C_drewN ?_ _) | (with_reducible refine Kd.C_drew ?_))); (case side2 => exact HC0_1.out); rintro e w27 ⟨rfl, hb⟩; refine ⟨_, rfl, ?_⟩; have n0_ := iC.mk (iP (g := gb228) (o := .cells #[.int .u32 a0_0, .slice A0_1 l0_1.length c0_1] 42 (0, 0)) (bk_ BK228.out) hb); have n1_ := iC.mk (iP (g := gb229) (o := .cells #[.int .u32 0, .slice none 0 0] 42 (0, 0)) (bk_ BK229.out) hb); have n2_ := iC.mk (iK (by repeat (first | (with_reducible first | exact HB.out | apply iF | apply iD | apply iG | refine iE ?_ GE228.out | refine iE ?_ GE229.out) | exact HB.out)) hb); clear BK228; clear BK229; clear HB; have BK228 := n0_; have BK229 := n1_; have HB := n2_; clear n0_ n1_ n2_; (try clear hb); (try clear hb2); (try clear hk); (try clear hi)))
              go_meet
              case rel => exact ⟨_, (true), (by first | rfl | (simp; done) | (simp [*]; done)), H', ⟨by first | omega | exact Nat.le_refl _⟩, ⟨bk_ BK228.out⟩, ⟨bk_ BK229.out⟩, ⟨by repeat (first | (with_reducible first | exact HB.out | apply iF | apply iD | apply iG | refine iE ?_ GE228.out | refine iE ?_ GE229.out) | exact HB.out)⟩⟩
            · rw [if_neg c24] at H
              have c24b0 : decide (a1 < a4) = false := decide_eq_false c24
              clear c24
              by_cases c28 : a5 < 0
              · rw [if_pos c28] at H
                have c28b0 : decide (a5 < 0) = true := decide_eq_true c28
                clear c28
                have H' := iC.mk H
                clear H
                have hnb29 := NB228_229.out
                have hnc29 := NB229_228.out
                have hcz30_0 : w9.cell? ⟨gb228, 0, none⟩ = some (.int .u32 a0_0) := (iI BK228.out 0).trans rfl
                have hcz30_1 : w9.cell? ⟨gb228, 1, none⟩ = some (.slice A0_1 l0_1.length c0_1) := (iI BK228.out 1).trans rfl
                have hfz30_0 := iH BK228.out 0
                have hfz30_1 := iH BK228.out 1
                go_wp2_with (first | ((with_reducible refine iU (f := 33) rfl ?_); refine jJ (some 22) rfl rfl Try.func33 (by kernel_rfl) rfl #[.agg #[.int .u32 a0_0, .slice A0_1 l0_1.length c0_1], .int .i64 a1, .int .i64 a2] rfl (by (try simp only [List.map_toArray, List.map_cons, List.map_nil]); first | done | rfl | (simp only [List.length_drop, List.length_take]; rfl)) ?_; (with_reducible refine (spans_Sound.calls k a0_0 _ _ l0_1 a1 a2 true _ ?side1 ?side2 A10.out).mono ?_); (case side1 => repeat (first | exact (Kd.C_below HR0_1.out HB.out) | (with_reducible refine Kd.C_alloc ?_ _) | (with_reducible refine Kd.C_drewN ?_ _) | (with_reducible refine Kd.C_drew ?_))); (case side2 => exact HC0_1.out); rintro e w31 ⟨rfl, hb⟩; refine ⟨_, rfl, ?_⟩; have n0_ := iC.mk (iP (g := gb228) (o := .cells #[.int .u32 a0_0, .slice A0_1 l0_1.length c0_1] 42 (0, 0)) (bk_ BK228.out) hb); have n1_ := iC.mk (iP (g := gb229) (o := .cells #[.int .u32 0, .slice none 0 0] 42 (0, 0)) (bk_ BK229.out) hb); have n2_ := iC.mk (iK (by repeat (first | (with_reducible first | exact HB.out | apply iF | apply iD | apply iG | refine iE ?_ GE228.out | refine iE ?_ GE229.out) | exact HB.out)) hb); clear BK228; clear BK229; clear HB; have BK228 := n0_; have BK229 := n1_; have HB := n2_; clear n0_ n1_ n2_; (try clear hb); (try clear hb2); (try clear hk); (try clear hi)))
                go_meet
                case rel => exact ⟨_, (true), (by first | rfl | (simp; done) | (simp [*]; done)), H', ⟨by first | omega | exact Nat.le_refl _⟩, ⟨bk_ BK228.out⟩, ⟨bk_ BK229.out⟩, ⟨by repeat (first | (with_reducible first | exact HB.out | apply iF | apply iD | apply iG | refine iE ?_ GE228.out | refine iE ?_ GE229.out) | exact HB.out)⟩⟩
              · rw [if_neg c28] at H
                have c28b0 : decide (a5 < 0) = false := decide_eq_false c28
                clear c28
                obtain ⟨ji32, hji32⟩ : ∃ j_ : Int, (mn a2 6) = j_ := ⟨_, rfl⟩
                replace H : (spans_Split.j0 k a1 a3 a4 a5 (decide (a5 ≥ (ji32))) a0_0 l0_1) = some (r1, r2, r3) := by first | (rw [hji32] at H; exact H) | (simp only [hji32] at H ⊢; exact H)
                (try rw [hji32] at A10)
                (try (have hji32h : ji32 ≤ 6 := by (rw [← hji32]; unfold mn; (repeat' split) <;> omega)))
                (try (have hji32g : ji32 ≤ 64 := by omega))
                have hji32_ : (if 6 < a2 then 6 else a2) = ji32 := hji32
                have H' := iC.mk H
                clear H
                have hnb33 := NB228_229.out
                have hnc33 := NB229_228.out
                have hcz34_0 : w9.cell? ⟨gb228, 0, none⟩ = some (.int .u32 a0_0) := (iI BK228.out 0).trans rfl
                have hcz34_1 : w9.cell? ⟨gb228, 1, none⟩ = some (.slice A0_1 l0_1.length c0_1) := (iI BK228.out 1).trans rfl
                have hfz34_0 := iH BK228.out 0
                have hfz34_1 := iH BK228.out 1
                go_wp2_with (first | ((with_reducible refine iU (f := 33) rfl ?_); refine jJ (some 22) rfl rfl Try.func33 (by kernel_rfl) rfl #[.agg #[.int .u32 a0_0, .slice A0_1 l0_1.length c0_1], .int .i64 a1, .int .i64 a2] rfl (by (try simp only [List.map_toArray, List.map_cons, List.map_nil]); first | done | rfl | (simp only [List.length_drop, List.length_take]; rfl)) ?_; (with_reducible refine (spans_Sound.calls k a0_0 _ _ l0_1 a1 a2 true _ ?side1 ?side2 A10.out).mono ?_); (case side1 => repeat (first | exact (Kd.C_below HR0_1.out HB.out) | (with_reducible refine Kd.C_alloc ?_ _) | (with_reducible refine Kd.C_drewN ?_ _) | (with_reducible refine Kd.C_drew ?_))); (case side2 => exact HC0_1.out); rintro e w35 ⟨rfl, hb⟩; refine ⟨_, rfl, ?_⟩; have n0_ := iC.mk (iP (g := gb228) (o := .cells #[.int .u32 a0_0, .slice A0_1 l0_1.length c0_1] 42 (0, 0)) (bk_ BK228.out) hb); have n1_ := iC.mk (iP (g := gb229) (o := .cells #[.int .u32 0, .slice none 0 0] 42 (0, 0)) (bk_ BK229.out) hb); have n2_ := iC.mk (iK (by repeat (first | (with_reducible first | exact HB.out | apply iF | apply iD | apply iG | refine iE ?_ GE228.out | refine iE ?_ GE229.out) | exact HB.out)) hb); clear BK228; clear BK229; clear HB; have BK228 := n0_; have BK229 := n1_; have HB := n2_; clear n0_ n1_ n2_; (try clear hb); (try clear hb2); (try clear hk); (try clear hi)))
                go_meet
                case rel => exact ⟨_, (decide (a5 ≥ (ji32))), (by first | rfl | (simp; done) | (simp only [← hji32] <;> (first | rfl | simp)) | (simp [*]; done)), H', ⟨by first | omega | exact Nat.le_refl _⟩, ⟨bk_ BK228.out⟩, ⟨bk_ BK229.out⟩, ⟨by repeat (first | (with_reducible first | exact HB.out | apply iF | apply iD | apply iG | refine iE ?_ GE228.out | refine iE ?_ GE229.out) | exact HB.out)⟩⟩
    · replace c11 := Bool.eq_false_iff.mpr c11
      subst c11
      have H1 : (spans_Split.j0 k a1 a3 a4 a5 true a0_0 l0_1) = some (r1, r2, r3) := by rw [if_neg (show ¬ (false = true) by decide)] at H; exact H
      clear H
      have H := H1
      clear H1
      have H' := iC.mk H
      clear H
      have hnb36 := NB228_229.out
      have hnc36 := NB229_228.out
      have hcz37_0 : w9.cell? ⟨gb228, 0, none⟩ = some (.int .u32 a0_0) := (iI BK228.out 0).trans rfl
      have hcz37_1 : w9.cell? ⟨gb228, 1, none⟩ = some (.slice A0_1 l0_1.length c0_1) := (iI BK228.out 1).trans rfl
      have hfz37_0 := iH BK228.out 0
      have hfz37_1 := iH BK228.out 1
      go_wp2_with (first | ((with_reducible refine iU (f := 33) rfl ?_); refine jJ (some 22) rfl rfl Try.func33 (by kernel_rfl) rfl #[.agg #[.int .u32 a0_0, .slice A0_1 l0_1.length c0_1], .int .i64 a1, .int .i64 a2] rfl (by (try simp only [List.map_toArray, List.map_cons, List.map_nil]); first | done | rfl | (simp only [List.length_drop, List.length_take]; rfl)) ?_; (with_reducible refine (spans_Sound.calls k a0_0 _ _ l0_1 a1 a2 false _ ?side1 ?side2 A10.out).mono ?_); (case side1 => repeat (first | exact (Kd.C_below HR0_1.out HB.out) | (with_reducible refine Kd.C_alloc ?_ _) | (with_reducible refine Kd.C_drewN ?_ _) | (with_reducible refine Kd.C_drew ?_))); (case side2 => exact HC0_1.out); rintro e w38 ⟨rfl, hb⟩; refine ⟨_, rfl, ?_⟩; have n0_ := iC.mk (iP (g := gb228) (o := .cells #[.int .u32 a0_0, .slice A0_1 l0_1.length c0_1] 42 (0, 0)) (bk_ BK228.out) hb); have n1_ := iC.mk (iP (g := gb229) (o := .cells #[.int .u32 0, .slice none 0 0] 42 (0, 0)) (bk_ BK229.out) hb); have n2_ := iC.mk (iK (by repeat (first | (with_reducible first | exact HB.out | apply iF | apply iD | apply iG | refine iE ?_ GE228.out | refine iE ?_ GE229.out) | exact HB.out)) hb); clear BK228; clear BK229; clear HB; have BK228 := n0_; have BK229 := n1_; have HB := n2_; clear n0_ n1_ n2_; (try clear hb); (try clear hb2); (try clear hk); (try clear hi)))
      go_meet
      case rel => exact ⟨_, (true), (by first | rfl | (simp; done) | (simp [*]; done)), H', ⟨by first | omega | exact Nat.le_refl _⟩, ⟨bk_ BK228.out⟩, ⟨bk_ BK229.out⟩, ⟨by repeat (first | (with_reducible first | exact HB.out | apply iF | apply iD | apply iG | refine iE ?_ GE228.out | refine iE ?_ GE229.out) | exact HB.out)⟩⟩
  case rest =>
    clear HC7
    try clear c1
    try clear c2
    try clear p2
    try clear c3
    try clear c11
    try clear c12
    try clear c12b0
    try clear c13
    try clear c16
    try clear c16b0
    try clear c17
    try clear c20
    try clear c20b0
    try clear c21
    try clear c24
    try clear c24b0
    try clear c25
    try clear c28
    try clear c28b0
    try clear c29
    try clear c30
    try clear c33
    try clear c36
    try clear hcz14_0
    try clear hcz14_1
    try clear hcz18_0
    try clear hcz18_1
    try clear hcz22_0
    try clear hcz22_1
    try clear hcz26_0
    try clear hcz26_1
    try clear hcz30_0
    try clear hcz30_1
    try clear hcz34_0
    try clear hcz34_1
    try clear hcz37_0
    try clear hcz37_1
    try clear hfz14_0
    try clear hfz14_1
    try clear hfz18_0
    try clear hfz18_1
    try clear hfz22_0
    try clear hfz22_1
    try clear hfz26_0
    try clear hfz26_1
    try clear hfz30_0
    try clear hfz30_1
    try clear hfz34_0
    try clear hfz34_1
    try clear hfz37_0
    try clear hfz37_1
    obtain ⟨kq, x51_6, rfl, HA, HJ6, BK228, BK229, HB⟩ := hcut
    cases kq with
    | zero => exact absurd HA.out (by simp [spans_Split.j0])
    | succ kj6 =>
      have H := HA.out
      clear HA
      simp only [spans_Split.j0] at H
      by_cases c39 : x51_6 = true
      · subst c39
        have H1 : (some (0, ([] : List (S60)), 120)) = some (r1, r2, r3) := by rw [if_pos rfl] at H; exact H
        clear H
        have H := H1
        clear H1
        simp only [Option.some.injEq, Prod.mk.injEq] at H
        obtain ⟨rfl, rfl, rfl⟩ := H
        have hnb40 := NB229_228.out
        have hnc40 := NB228_229.out
        have hcz41_0 : wc.cell? ⟨gb229, 0, none⟩ = some (.int .u32 0) := (iI BK229.out 0).trans rfl
        have hcz41_1 : wc.cell? ⟨gb229, 1, none⟩ = some (.slice none 0 0) := (iI BK229.out 1).trans rfl
        have hfz41_0 := iH BK229.out 0
        have hfz41_1 := iH BK229.out 1
        go_wp2
        refine bodyPost_ret (kM rfl _ _ gb229 42 #[.int .u32 0, .slice none 0 0] (0, 0) _ rfl (by (with_reducible repeat (first | refine iM ?_ _ | refine iO ?_ | refine iL ?_ _)); refine jD (cs := #[.int .u32 0, .slice none 0 0]) ?_ 1 _ rfl; (with_reducible repeat (first | refine iM ?_ _ | refine iO ?_ | refine iL ?_ _)); refine jD (cs := #[.int .u32 0, .slice none 0 0]) ?_ 0 _ rfl; (with_reducible repeat (first | refine iM ?_ _ | refine iO ?_ | refine iL ?_ _)); exact BK229.out) Try.underlying42 rfl (by kernel_rfl)) rfl ?_
        exact ⟨_, by first | rfl | (simp [iR, iQ] <;> rfl) | (simp [*, iR, iQ] <;> rfl), by first | exact Kd.R_nil _ _ _ _ _ | exact Kd.N_nil _ _ _ _ _ | exact Kd.V_nil _ _ _ _ _ | exact Kd.Q_nil _ _ _ _ _ | exact Kd.S_nil _ _ _ _ _, by repeat (first | (with_reducible first | exact HB.out | apply iF | apply iD | apply iG | refine iE ?_ GE228.out | refine iE ?_ GE229.out) | exact HB.out)⟩
      · replace c39 := Bool.eq_false_iff.mpr c39
        subst c39
        have H1 : ((spans_Nodes.f a0_0 l0_1 a3 a4).bind fun t231 => ((slices_Equal_int_int.f kj6 t231 (([a5] : List Int))).bind fun t237 => (if t237 = true then (some (0, ([] : List (S60)), 120)) else (spans_Split.l0 kj6 a1 a3 a4 a5 ([] : List (S60)) l0_1 (l0_1.length : Int) 0 a0_0 l0_1)))) = some (r1, r2, r3) := by rw [if_neg (show ¬ (false = true) by decide)] at H; exact H
        clear H
        have H := H1
        clear H1
        replace H := Option.bind_eq_some_iff.mp H
        obtain ⟨t231, A420, H⟩ := H
        replace H : ((slices_Equal_int_int.f kj6 t231 (([a5] : List Int))).bind fun t237 => (if t237 = true then (some (0, ([] : List (S60)), 120)) else (spans_Split.l0 kj6 a1 a3 a4 a5 ([] : List (S60)) l0_1 (l0_1.length : Int) 0 a0_0 l0_1))) = some (r1, r2, r3) := H
        have A42 := iC.mk A420
        clear A420
        obtain ⟨y234, hy234⟩ : ∃ y_ : List Int, y_ = (([a5] : List Int)) := ⟨_, rfl⟩
        replace H : ((slices_Equal_int_int.f kj6 t231 y234).bind fun t237 => (if t237 = true then (some (0, ([] : List (S60)), 120)) else (spans_Split.l0 kj6 a1 a3 a4 a5 ([] : List (S60)) l0_1 (l0_1.length : Int) 0 a0_0 l0_1))) = some (r1, r2, r3) := by first | (rw [hy234]; with_reducible exact H) | (have H2_ := (Option.bind_some _ _).symm.trans H; rw [hy234]; with_reducible exact H2_) | (have H2_ := (Option.bind_some _ _).symm.trans H; with_reducible exact H2_) | with_reducible exact H | (rw [hy234]; exact H) | exact H
        have Ny234 := iC.mk hy234
        clear hy234
        replace H := Option.bind_eq_some_iff.mp H
        obtain ⟨t237, A430, H⟩ := H
        replace H : (if t237 = true then (some (0, ([] : List (S60)), 120)) else (spans_Split.l0 kj6 a1 a3 a4 a5 ([] : List (S60)) l0_1 (l0_1.length : Int) 0 a0_0 l0_1)) = some (r1, r2, r3) := H
        have A43 := iC.mk A430
        clear A430
        by_cases c44 : t237 = true
        · subst c44
          have H1 : (some (0, ([] : List (S60)), 120)) = some (r1, r2, r3) := by rw [if_pos rfl] at H; exact H
          clear H
          have H := H1
          clear H1
          simp only [Option.some.injEq, Prod.mk.injEq] at H
          obtain ⟨rfl, rfl, rfl⟩ := H
          have hnb45 := NB228_229.out
          have hnc45 := NB229_228.out
          have hcz46_0 : wc.cell? ⟨gb228, 0, none⟩ = some (.int .u32 a0_0) := (iI BK228.out 0).trans rfl
          have hcz46_1 : wc.cell? ⟨gb228, 1, none⟩ = some (.slice A0_1 l0_1.length c0_1) := (iI BK228.out 1).trans rfl
          have hfz46_0 := iH BK228.out 0
          have hfz46_1 := iH BK228.out 1
          go_wp2_with (first | ((with_reducible refine iU (f := 28) rfl ?_); refine jJ (some 56) rfl rfl Try.func28 (by kernel_rfl) rfl #[.agg #[.int .u32 a0_0, .slice A0_1 l0_1.length c0_1], .int .i64 a3, .int .i64 a4] rfl (by (try simp only [List.map_toArray, List.map_cons, List.map_nil]); first | done | rfl | (simp only [List.length_drop, List.length_take]; rfl)) ?_; (with_reducible refine (spans_Nodes.calls a0_0 _ _ l0_1 a3 a4 t231 _ ?side1 ?side2 A42.out).mono ?_); (case side1 => repeat (first | exact (Kd.C_below HR0_1.out HB.out) | (with_reducible refine Kd.C_alloc ?_ _) | (with_reducible refine Kd.C_drewN ?_ _) | (with_reducible refine Kd.C_drew ?_))); (case side2 => exact HC0_1.out); rintro e w47 ⟨v232, rfl, ho0, hb⟩; refine ⟨_, rfl, ?_⟩; have n0_ := iC.mk (Kd.R_lower ho0 (iJ (by repeat (first | (with_reducible first | exact HB.out | apply iF | apply iD | apply iG | refine iE ?_ GE228.out | refine iE ?_ GE229.out) | exact HB.out)))); have n1_ := iC.mk (iP (g := gb228) (o := .cells #[.int .u32 a0_0, .slice A0_1 l0_1.length c0_1] 42 (0, 0)) (bk_ BK228.out) hb); have n2_ := iC.mk (iP (g := gb229) (o := .cells #[.int .u32 0, .slice none 0 0] 42 (0, 0)) (bk_ BK229.out) hb); have n3_ := iC.mk (iK (by repeat (first | (with_reducible first | exact HB.out | apply iF | apply iD | apply iG | refine iE ?_ GE228.out | refine iE ?_ GE229.out) | exact HB.out)) hb); clear BK228; clear BK229; clear HB; have HO233 := n0_; have BK228 := n1_; have BK229 := n2_; have HB := n3_; clear n0_ n1_ n2_ n3_; (try clear hb); (try clear hb2); (try clear hk); (try clear hi); (try clear ho0)) | ((with_reducible refine jC (N := 58) rfl ?_); (try (refine iW (by rfl) ?_; dsimp only)); refine Kd.R_lit (Kd.int .i64) _ 3 ?hg (N := 58) ?hd (xs := ([a5] : List Int)) (inner := [.int .i64 a5]) (ok := fun _ => True) (okp := fun _ => True) ?hr ?hp (fun _ hk => hk) trivial (Below.refl _ _) (Nat.le_refl _) (by simp) ?_; (case hd => rfl); (case hg => rfl); (case hr => first | (go_simp; done) | (go_simp; rfl)); (case hp => exact (Reps.one (show Kd.M (Kd.int .i64) _ _ _ a5 [.int .i64 a5] from rfl) (Reps.none _ _))); intro v235 w48 ho49 hb hg_ hnew_; clear hg_ hnew_; (first | rw [← Ny234.out] at ho49 | (simp only [Int.reduceToNat] at ho49; rw [← Ny234.out] at ho49)); have n0_ := iC.mk (Kd.R_elder' (by (with_reducible repeat (first | apply Kd.R_alloc | apply Kd.R_drewN | apply Kd.R_drew)); exact HO233.out) (Kd.R_base ho49) hb); have n1_ := iC.mk (Kd.R_lower (Kd.R_new' ho49 (Kd.R_lt (by (with_reducible repeat (first | apply Kd.R_alloc | apply Kd.R_drewN | apply Kd.R_drew)); exact HO233.out))) (iJ (by repeat (first | (with_reducible first | exact HB.out | apply iF | apply iD | apply iG | refine iE ?_ GE228.out | refine iE ?_ GE229.out) | exact HB.out)))); have n2_ := iC.mk (iP (g := gb228) (o := .cells #[.int .u32 a0_0, .slice A0_1 l0_1.length c0_1] 42 (0, 0)) (bk_ BK228.out) hb); have n3_ := iC.mk (iP (g := gb229) (o := .cells #[.int .u32 0, .slice none 0 0] 42 (0, 0)) (bk_ BK229.out) hb); have n4_ := iC.mk (iK (by repeat (first | (with_reducible first | exact HB.out | apply iF | apply iD | apply iG | refine iE ?_ GE228.out | refine iE ?_ GE229.out) | exact HB.out)) hb); clear HO233; clear BK228; clear BK229; clear HB; have HO233 := n0_; have HO236 := n1_; have BK228 := n2_; have BK229 := n3_; have HB := n4_; clear n0_ n1_ n2_ n3_ n4_; clear hb ho49; obtain ⟨Ao50, co50, eo50⟩ := Kd.R_slice HO233.out; subst eo50; obtain ⟨Ao51, co51, eo51⟩ := Kd.R_slice HO236.out; subst eo51) | ((with_reducible refine iU (f := 65) rfl ?_); refine jJ (some 59) rfl rfl Try.func65 (by kernel_rfl) rfl #[.slice Ao50 t231.length co50, .slice Ao51 y234.length co51] rfl (by (try simp only [List.map_toArray, List.map_cons, List.map_nil]); first | done | rfl | (simp only [List.length_drop, List.length_take]; rfl)) ?_; (with_reducible refine (slices_Equal_int_int.calls kj6 _ _ t231 _ _ y234 true _ ?side1 ?side2 ?side3 ?side4 A43.out).mono ?_); (case side1 => repeat (first | exact (Kd.R_reads' HO233.out).2.2 | (with_reducible refine Kd.C_alloc ?_ _) | (with_reducible refine Kd.C_drewN ?_ _) | (with_reducible refine Kd.C_drew ?_))); (case side2 => exact (Kd.R_reads' HO233.out).2.1); (case side3 => repeat (first | exact (Kd.R_reads' HO236.out).2.2 | (with_reducible refine Kd.C_alloc ?_ _) | (with_reducible refine Kd.C_drewN ?_ _) | (with_reducible refine Kd.C_drew ?_))); (case side4 => exact (Kd.R_reads' HO236.out).2.1); rintro e w' ⟨rfl, ⟨nd, rfl⟩⟩; refine ⟨_, rfl, ?_⟩; (try (rw [o7 w48]; generalize hq_ : World.drewN w48 _ = w48; have n0_ : iC (Kd.R (Kd.int .i64) 3 w48 w.heap.size (fun k_ => some k_ ≠ (.slice Ao51 y234.length co51 : Value).ownBlock) (.slice Ao50 t231.length co50) t231) := ⟨by rw [← hq_]; exact (by (with_reducible repeat (first | apply Kd.R_alloc | apply Kd.R_drewN | apply Kd.R_drew)); exact Kd.R_mono HO233.out (fun _ hk => hk.2))⟩; have n1_ : iC (Kd.R (Kd.int .i64) 3 w48 w.heap.size (fun k_ => some k_ ≠ (.slice Ao50 t231.length co50 : Value).ownBlock) (.slice Ao51 y234.length co51) y234) := ⟨by rw [← hq_]; exact (by (with_reducible repeat (first | apply Kd.R_alloc | apply Kd.R_drewN | apply Kd.R_drew)); exact Kd.R_mono HO236.out (fun _ hk => hk.2))⟩; have n2_ : iC (w48.heap[gb228]? = some (.cells #[.int .u32 a0_0, .slice A0_1 l0_1.length c0_1] 42 (0, 0))) := ⟨by rw [← hq_]; exact (bk_ BK228.out)⟩; have n3_ : iC (w48.heap[gb229]? = some (.cells #[.int .u32 0, .slice none 0 0] 42 (0, 0))) := ⟨by rw [← hq_]; exact (bk_ BK229.out)⟩; have n4_ : iC (Below w.heap.size w w48) := ⟨by rw [← hq_]; exact (by repeat (first | (with_reducible first | exact HB.out | apply iF | apply iD | apply iG | refine iE ?_ GE228.out | refine iE ?_ GE229.out) | exact HB.out))⟩; clear HO233 HO236 BK228 BK229 HB hq_; have HO233 := n0_; have HO236 := n1_; have BK228 := n2_; have BK229 := n3_; have HB := n4_; clear n0_ n1_ n2_ n3_ n4_)); have hcz52_0 : w48.cell? ⟨gb229, 0, none⟩ = some (.int .u32 0) := (iI BK229.out 0).trans rfl; have hcz52_1 : w48.cell? ⟨gb229, 1, none⟩ = some (.slice none 0 0) := (iI BK229.out 1).trans rfl; have hfz52_0 := iH BK229.out 0; have hfz52_1 := iH BK229.out 1))
          refine bodyPost_ret (kM rfl _ _ gb229 42 #[.int .u32 0, .slice none 0 0] (0, 0) _ rfl (by (with_reducible repeat (first | refine iM ?_ _ | refine iO ?_ | refine iL ?_ _)); refine jD (cs := #[.int .u32 0, .slice none 0 0]) ?_ 1 _ rfl; (with_reducible repeat (first | refine iM ?_ _ | refine iO ?_ | refine iL ?_ _)); refine jD (cs := #[.int .u32 0, .slice none 0 0]) ?_ 0 _ rfl; (with_reducible repeat (first | refine iM ?_ _ | refine iO ?_ | refine iL ?_ _)); exact BK229.out) Try.underlying42 rfl (by kernel_rfl)) rfl ?_
          exact ⟨_, by first | rfl | (simp [iR, iQ] <;> rfl) | (simp [*, iR, iQ] <;> rfl), by first | exact Kd.R_nil _ _ _ _ _ | exact Kd.N_nil _ _ _ _ _ | exact Kd.V_nil _ _ _ _ _ | exact Kd.Q_nil _ _ _ _ _ | exact Kd.S_nil _ _ _ _ _, by repeat (first | (with_reducible first | exact HB.out | apply iF | apply iD | apply iG | refine iE ?_ GE228.out | refine iE ?_ GE229.out) | exact HB.out)⟩
        · replace c44 := Bool.eq_false_iff.mpr c44
          subst c44
          have H1 : (spans_Split.l0 kj6 a1 a3 a4 a5 ([] : List (S60)) l0_1 (l0_1.length : Int) 0 a0_0 l0_1) = some (r1, r2, r3) := by rw [if_neg (show ¬ (false = true) by decide)] at H; exact H
          clear H
          have H := H1
          clear H1
          have H' := iC.mk H
          clear H
          have hnb53 := NB228_229.out
          have hnc53 := NB229_228.out
          have hcz54_0 : wc.cell? ⟨gb228, 0, none⟩ = some (.int .u32 a0_0) := (iI BK228.out 0).trans rfl
          have hcz54_1 : wc.cell? ⟨gb228, 1, none⟩ = some (.slice A0_1 l0_1.length c0_1) := (iI BK228.out 1).trans rfl
          have hfz54_0 := iH BK228.out 0
          have hfz54_1 := iH BK228.out 1
          go_wp2_with (first | ((with_reducible refine iU (f := 28) rfl ?_); refine jJ (some 56) rfl rfl Try.func28 (by kernel_rfl) rfl #[.agg #[.int .u32 a0_0, .slice A0_1 l0_1.length c0_1], .int .i64 a3, .int .i64 a4] rfl (by (try simp only [List.map_toArray, List.map_cons, List.map_nil]); first | done | rfl | (simp only [List.length_drop, List.length_take]; rfl)) ?_; (with_reducible refine (spans_Nodes.calls a0_0 _ _ l0_1 a3 a4 t231 _ ?side1 ?side2 A42.out).mono ?_); (case side1 => repeat (first | exact (Kd.C_below HR0_1.out HB.out) | (with_reducible refine Kd.C_alloc ?_ _) | (with_reducible refine Kd.C_drewN ?_ _) | (with_reducible refine Kd.C_drew ?_))); (case side2 => exact HC0_1.out); rintro e w55 ⟨v232, rfl, ho0, hb⟩; refine ⟨_, rfl, ?_⟩; have n0_ := iC.mk (Kd.R_lower ho0 (iJ (by repeat (first | (with_reducible first | exact HB.out | apply iF | apply iD | apply iG | refine iE ?_ GE228.out | refine iE ?_ GE229.out) | exact HB.out)))); have n1_ := iC.mk (iP (g := gb228) (o := .cells #[.int .u32 a0_0, .slice A0_1 l0_1.length c0_1] 42 (0, 0)) (bk_ BK228.out) hb); have n2_ := iC.mk (iP (g := gb229) (o := .cells #[.int .u32 0, .slice none 0 0] 42 (0, 0)) (bk_ BK229.out) hb); have n3_ := iC.mk (iK (by repeat (first | (with_reducible first | exact HB.out | apply iF | apply iD | apply iG | refine iE ?_ GE228.out | refine iE ?_ GE229.out) | exact HB.out)) hb); clear BK228; clear BK229; clear HB; have HO233 := n0_; have BK228 := n1_; have BK229 := n2_; have HB := n3_; clear n0_ n1_ n2_ n3_; (try clear hb); (try clear hb2); (try clear hk); (try clear hi); (try clear ho0)) | ((with_reducible refine jC (N := 58) rfl ?_); (try (refine iW (by rfl) ?_; dsimp only)); refine Kd.R_lit (Kd.int .i64) _ 3 ?hg (N := 58) ?hd (xs := ([a5] : List Int)) (inner := [.int .i64 a5]) (ok := fun _ => True) (okp := fun _ => True) ?hr ?hp (fun _ hk => hk) trivial (Below.refl _ _) (Nat.le_refl _) (by simp) ?_; (case hd => rfl); (case hg => rfl); (case hr => first | (go_simp; done) | (go_simp; rfl)); (case hp => exact (Reps.one (show Kd.M (Kd.int .i64) _ _ _ a5 [.int .i64 a5] from rfl) (Reps.none _ _))); intro v235 w56 ho57 hb hg_ hnew_; clear hg_ hnew_; (first | rw [← Ny234.out] at ho57 | (simp only [Int.reduceToNat] at ho57; rw [← Ny234.out] at ho57)); have n0_ := iC.mk (Kd.R_elder' (by (with_reducible repeat (first | apply Kd.R_alloc | apply Kd.R_drewN | apply Kd.R_drew)); exact HO233.out) (Kd.R_base ho57) hb); have n1_ := iC.mk (Kd.R_lower (Kd.R_new' ho57 (Kd.R_lt (by (with_reducible repeat (first | apply Kd.R_alloc | apply Kd.R_drewN | apply Kd.R_drew)); exact HO233.out))) (iJ (by repeat (first | (with_reducible first | exact HB.out | apply iF | apply iD | apply iG | refine iE ?_ GE228.out | refine iE ?_ GE229.out) | exact HB.out)))); have n2_ := iC.mk (iP (g := gb228) (o := .cells #[.int .u32 a0_0, .slice A0_1 l0_1.length c0_1] 42 (0, 0)) (bk_ BK228.out) hb); have n3_ := iC.mk (iP (g := gb229) (o := .cells #[.int .u32 0, .slice none 0 0] 42 (0, 0)) (bk_ BK229.out) hb); have n4_ := iC.mk (iK (by repeat (first | (with_reducible first | exact HB.out | apply iF | apply iD | apply iG | refine iE ?_ GE228.out | refine iE ?_ GE229.out) | exact HB.out)) hb); clear HO233; clear BK228; clear BK229; clear HB; have HO233 := n0_; have HO236 := n1_; have BK228 := n2_; have BK229 := n3_; have HB := n4_; clear n0_ n1_ n2_ n3_ n4_; clear hb ho57; obtain ⟨Ao58, co58, eo58⟩ := Kd.R_slice HO233.out; subst eo58; obtain ⟨Ao59, co59, eo59⟩ := Kd.R_slice HO236.out; subst eo59) | ((with_reducible refine iU (f := 65) rfl ?_); refine jJ (some 59) rfl rfl Try.func65 (by kernel_rfl) rfl #[.slice Ao58 t231.length co58, .slice Ao59 y234.length co59] rfl (by (try simp only [List.map_toArray, List.map_cons, List.map_nil]); first | done | rfl | (simp only [List.length_drop, List.length_take]; rfl)) ?_; (with_reducible refine (slices_Equal_int_int.calls kj6 _ _ t231 _ _ y234 false _ ?side1 ?side2 ?side3 ?side4 A43.out).mono ?_); (case side1 => repeat (first | exact (Kd.R_reads' HO233.out).2.2 | (with_reducible refine Kd.C_alloc ?_ _) | (with_reducible refine Kd.C_drewN ?_ _) | (with_reducible refine Kd.C_drew ?_))); (case side2 => exact (Kd.R_reads' HO233.out).2.1); (case side3 => repeat (first | exact (Kd.R_reads' HO236.out).2.2 | (with_reducible refine Kd.C_alloc ?_ _) | (with_reducible refine Kd.C_drewN ?_ _) | (with_reducible refine Kd.C_drew ?_))); (case side4 => exact (Kd.R_reads' HO236.out).2.1); rintro e w' ⟨rfl, ⟨nd, rfl⟩⟩; refine ⟨_, rfl, ?_⟩; have hcz60_0 : w56.cell? ⟨gb228, 0, none⟩ = some (.int .u32 a0_0) := (iI BK228.out 0).trans rfl; have hcz60_1 : w56.cell? ⟨gb228, 1, none⟩ = some (.slice A0_1 l0_1.length c0_1) := (iI BK228.out 1).trans rfl; have hfz60_0 := iH BK228.out 0; have hfz60_1 := iH BK228.out 1))
          go_loopg [14, 64] kj6 (fun kq v14 v64 w' => ∃ (x14_2 : List (S60)) (x64_2 : Int), v64 = .int .i64 x64_2 ∧ iC (spans_Split.l0 kq a1 a3 a4 a5 x14_2 l0_1 (l0_1.length : Int) x64_2 a0_0 l0_1 = some (r1, r2, r3)) ∧ iC (kq ≤ kj6) ∧ iC (Kd.R k60 60 w' w.heap.size (fun _ => True) v14 x14_2) ∧ iC (w'.heap[gb228]? = some (.cells #[.int .u32 a0_0, (.slice A0_1 l0_1.length c0_1)] 42 (0, 0))) ∧ iC (w'.heap[gb229]? = some (.cells #[.int .u32 0, (.slice none 0 0)] 42 (0, 0))) ∧ iC (Below w.heap.size w w'))
          case atStart => exact ⟨(([] : List (S60))), (0), (by first | rfl | (simp; done) | (simp [*]; done)), H', ⟨Nat.le_refl _⟩, ⟨by first | exact Kd.R_nil _ _ _ _ _ | exact Kd.N_nil _ _ _ _ _ | exact Kd.V_nil _ _ _ _ _ | exact Kd.Q_nil _ _ _ _ _ | exact Kd.S_nil _ _ _ _ _⟩, ⟨bk_ BK228.out⟩, ⟨bk_ BK229.out⟩, ⟨by repeat (first | (with_reducible first | exact HB.out | apply iF | apply iD | apply iG | refine iE ?_ GE228.out | refine iE ?_ GE229.out) | exact HB.out)⟩⟩
          case round =>
            clear H'
            try clear c1
            try clear c2
            try clear p2
            try clear c3
            try clear c4
            try clear c5
            try clear c6
            try clear c11
            try clear c12
            try clear c12b0
            try clear c13
            try clear c16
            try clear c16b0
            try clear c17
            try clear c20
            try clear c20b0
            try clear c21
            try clear c24
            try clear c24b0
            try clear c25
            try clear c28
            try clear c28b0
            try clear c29
            try clear c30
            try clear c33
            try clear c36
            try clear c39
            try clear c40
            try clear c44
            try clear c45
            try clear c53
            try clear hcz14_0
            try clear hcz14_1
            try clear hcz18_0
            try clear hcz18_1
            try clear hcz22_0
            try clear hcz22_1
            try clear hcz26_0
            try clear hcz26_1
            try clear hcz30_0
            try clear hcz30_1
            try clear hcz34_0
            try clear hcz34_1
            try clear hcz37_0
            try clear hcz37_1
            try clear hcz41_0
            try clear hcz41_1
            try clear hcz46_0
            try clear hcz46_1
            try clear hcz52_0
            try clear hcz52_1
            try clear hcz54_0
            try clear hcz54_1
            try clear hcz60_0
            try clear hcz60_1
            try clear hfz14_0
            try clear hfz14_1
            try clear hfz18_0
            try clear hfz18_1
            try clear hfz22_0
            try clear hfz22_1
            try clear hfz26_0
            try clear hfz26_1
            try clear hfz30_0
            try clear hfz30_1
            try clear hfz34_0
            try clear hfz34_1
            try clear hfz37_0
            try clear hfz37_1
            try clear hfz41_0
            try clear hfz41_1
            try clear hfz46_0
            try clear hfz46_1
            try clear hfz52_0
            try clear hfz52_1
            try clear hfz54_0
            try clear hfz54_1
            try clear hfz60_0
            try clear hfz60_1
            try clear p2
            obtain ⟨x14_2, x64_2, rfl, HA, HK2, HO_14, BK228, BK229, HB⟩ := hrel
            cases gk with
            | zero => exact absurd HA.out (by simp [spans_Split.l0])
            | succ k2 =>
              have H := HA.out
              clear HA
              simp only [spans_Split.l0] at H
              by_cases c61 : x64_2 < (l0_1.length : Int)
              · rw [if_pos c61] at H
                have c61b0 : decide (x64_2 < (l0_1.length : Int)) = true := decide_eq_true c61
                clear c61
                by_cases c62 : 0 ≤ x64_2
                · rw [if_pos c62] at H
                  have c62b0 : decide (0 ≤ x64_2) = true := decide_eq_true c62
                  clear c62
                  by_cases c63 : x64_2 < (l0_1.length : Int)
                  · rw [if_pos c63] at H
                    have c63b0 : decide (x64_2 < (l0_1.length : Int)) = true := decide_eq_true c63
                    clear c63
                    by_cases c64 : ((iT l0_1 x64_2).f0) < a3
                    · rw [if_pos c64] at H
                      have c64b0 : decide (((iT l0_1 x64_2).f0) < a3) = true := decide_eq_true c64
                      clear c64
                      by_cases c65 : x14_2.length < 8796093022208
                      · rw [if_pos c65] at H
                        have LMc65 := iC.mk c65
                        clear c65
                        obtain ⟨y240, hy240⟩ : ∃ y_ : List (S60), y_ = (x14_2 ++ [(⟨(iT l0_1 x64_2).f0, (iT l0_1 x64_2).f1⟩ : S60)]) := ⟨_, rfl⟩
                        replace H : (spans_Split.l0 k2 a1 a3 a4 a5 y240 l0_1 (l0_1.length : Int) (wrap64 (x64_2 + 1)) a0_0 l0_1) = some (r1, r2, r3) := by first | (rw [hy240]; with_reducible exact H) | (have H2_ := (Option.bind_some _ _).symm.trans H; rw [hy240]; with_reducible exact H2_) | (have H2_ := (Option.bind_some _ _).symm.trans H; with_reducible exact H2_) | with_reducible exact H | (rw [hy240]; exact H) | exact H
                        have Ny240 := iC.mk hy240
                        clear hy240
                        have H' := iC.mk H
                        clear H
                        have p238 : 0 ≤ (x64_2 : Int) := of_decide_eq_true asm_
                        have q238 : x64_2 < (l0_1.length : Int) := of_decide_eq_true asm_
                        obtain ⟨ad238, e238, hx238_0, hx238_1⟩ := jK HR0_1.out x64_2 p238 q238
                        cases e238
                        replace hx238_0 := (HB.out.cell (World.block_lt_of_cell? w _ hx238_0)).trans hx238_0
                        replace hx238_1 := (HB.out.cell (World.block_lt_of_cell? w _ hx238_1)).trans hx238_1
                        replace p238 := eq_true p238
                        replace q238 := eq_true q238
                        go_wp2_with (first | ((with_reducible refine jC (N := 16) rfl ?_); (try (refine iW (by rfl) ?_; dsimp only)); refine jA ?hg (N := 16) ?hd (cs := #[.int .i64 0, .int .i64 0]) (t := 60) ?hr ?_; (case hd => rfl); (case hg => rfl); (case hr => first | (go_simp; done) | (go_simp; rfl)); intro gb239 hg w66 hbox hb; have n0_ := iC.mk (Kd.R_below (Kd.R_elderB (by (with_reducible repeat (first | apply Kd.R_alloc | apply Kd.R_drewN | apply Kd.R_drew)); exact HO_14.out) gb239 (Nat.le_of_eq hg.symm)) hb); have n1_ := iC.mk (iP (g := gb228) (o := .cells #[.int .u32 a0_0, .slice (some ad238) l0_1.length c0_1] 42 (0, 0)) (bk_ BK228.out) hb); have n2_ := iC.mk (iP (g := gb229) (o := .cells #[.int .u32 0, .slice none 0 0] 42 (0, 0)) (bk_ BK229.out) hb); have n3_ := iC.mk (iK (by repeat (first | (with_reducible first | exact HB.out | apply iF | apply iD | apply iG | refine iE ?_ GE228.out | refine iE ?_ GE229.out) | exact HB.out)) hb); have n4_ := iC.mk (hbox); have n5_ := iC.mk ((by rw [hg]; exact (iJ (by repeat (first | (with_reducible first | exact HB.out | apply iF | apply iD | apply iG | refine iE ?_ GE228.out | refine iE ?_ GE229.out) | exact HB.out))) : w.heap.size ≤ gb239)); have n6_ := iC.mk ((by rw [hg]; exact (iJ (by repeat (first | (with_reducible first | exact HB.out | apply iF | apply iD | apply iG | refine iE ?_ GE228.out | refine iE ?_ GE229.out) | exact HB.out))) : w.heap.size ≤ gb239)); have n7_ := iC.mk ((by rw [hg]; exact Nat.ne_of_lt (jE (g := gb228) (o := .cells #[.int .u32 a0_0, .slice (some ad238) l0_1.length c0_1] 42 (0, 0)) (bk_ BK228.out)) : gb228 ≠ gb239)); have n8_ := iC.mk ((by rw [hg]; exact Nat.ne_of_gt (jE (g := gb228) (o := .cells #[.int .u32 a0_0, .slice (some ad238) l0_1.length c0_1] 42 (0, 0)) (bk_ BK228.out)) : gb239 ≠ gb228)); have n9_ := iC.mk ((by rw [hg]; exact Nat.ne_of_lt (jE (g := gb229) (o := .cells #[.int .u32 0, .slice none 0 0] 42 (0, 0)) (bk_ BK229.out)) : gb229 ≠ gb239)); have n10_ := iC.mk ((by rw [hg]; exact Nat.ne_of_gt (jE (g := gb229) (o := .cells #[.int .u32 0, .slice none 0 0] 42 (0, 0)) (bk_ BK229.out)) : gb239 ≠ gb229)); clear HO_14; clear BK228; clear BK229; clear HB; have HO_14 := n0_; have BK228 := n1_; have BK229 := n2_; have HB := n3_; have BK239 := n4_; have GW239 := n5_; have GE239 := n6_; have NB228_239 := n7_; have NB239_228 := n8_; have NB229_239 := n9_; have NB239_229 := n10_; clear n0_ n1_ n2_ n3_ n4_ n5_ n6_ n7_ n8_ n9_ n10_; clear hb hbox hg; have hnb67 := NB239_228.out; have hnc67 := NB228_239.out; have hnb68 := NB239_229.out; have hnc68 := NB229_239.out; have hcz69_0 : w66.cell? ⟨gb239, 0, none⟩ = some (.int .i64 0) := (iI BK239.out 0).trans rfl; have hcz69_1 : w66.cell? ⟨gb239, 1, none⟩ = some (.int .i64 0) := (iI BK239.out 1).trans rfl; have hfz69_0 := iH BK239.out 0; have hfz69_1 := iH BK239.out 1) | ((with_reducible refine kF (b := .append) (xs := #[.tmp 72, .tmp 74]) rfl ?_); (try (refine iW (by rfl) ?_; dsimp only)); at_builtin; refine Kd.R_append k60 (w0 := w) w.heap.size rfl (.tmp 72) (.tmp 74) 40 60 (.agg #[(.int .i64 0), (.int .i64 0)]) 16 rfl Try.underlying40 mY rfl (by decide) (by omega) u14 x14_2 (⟨(iT l0_1 x64_2).f0, (iT l0_1 x64_2).f1⟩ : S60) [.int .i64 ((iT l0_1 x64_2).f0), .int .i64 ((iT l0_1 x64_2).f1)] (fun k_ => k_ ≠ gb239) (fun _ => False) rfl (by first | (go_simp; done) | (go_simp; rfl)) ?aP (fun _ hk => hk.elim) ?aF ?aO ?aB ?aS ?aL ?_; (case aP => exact kS _ _ _ (⟨(iT l0_1 x64_2).f0, (iT l0_1 x64_2).f1⟩ : S60)); (case aB => exact (by repeat (first | (with_reducible first | exact HB.out | apply iF | apply iD | apply iG | refine iE ?_ GE228.out | refine iE ?_ GE229.out | refine iE ?_ GE239.out) | exact HB.out))); (case aF => exact (fun k_ hk => Kd.freshB (g := gb239) (o := .cells #[.int .i64 ((iT l0_1 x64_2).f0), .int .i64 ((iT l0_1 x64_2).f1)] 60 (0, 0)) (by (with_reducible repeat (first | refine iM ?_ _ | refine iO ?_ | refine iL ?_ _)); refine jD (cs := #[.int .i64 ((iT l0_1 x64_2).f0), .int .i64 0]) ?_ 1 _ rfl; (with_reducible repeat (first | refine iM ?_ _ | refine iO ?_ | refine iL ?_ _)); refine jD (cs := #[.int .i64 0, .int .i64 0]) ?_ 0 _ rfl; (with_reducible repeat (first | refine iM ?_ _ | refine iO ?_ | refine iL ?_ _)); exact BK239.out) k_ hk)); (case aO => exact (by (with_reducible repeat (first | apply Kd.R_alloc | apply Kd.R_drewN | apply Kd.R_drew)); exact Kd.R_mono (Kd.R_far (p := ⟨gb239, 1, none⟩) (Kd.R_far (p := ⟨gb239, 0, none⟩) (Kd.R_mono HO_14.out (fun k_ hk => (⟨hk, hk.2⟩ : _ ∧ k_ ≠ gb239))) (fun _ hk => hk.2) (.int .i64 ((iT l0_1 x64_2).f0))) (fun _ hk => hk.2) (.int .i64 ((iT l0_1 x64_2).f1))) (fun _ hk => hk.1.2))); (case aS => exact (iJ (by repeat (first | (with_reducible first | exact HB.out | apply iF | apply iD | apply iG | refine iE ?_ GE228.out | refine iE ?_ GE229.out | refine iE ?_ GE239.out) | exact HB.out)))); (case aL => have := LMc65.out; omega); intro v241 w70 ho hb hg hat; rw [← Ny240.out] at ho; have n0_ := iC.mk (jL (g := gb228) (o := .cells #[.int .u32 a0_0, .slice (some ad238) l0_1.length c0_1] 42 (0, 0)) (by (with_reducible repeat (first | refine iM ?_ _ | refine iO ?_ | refine iL ?_ _)); refine jH ?_ NB228_239.out _; (with_reducible repeat (first | refine iM ?_ _ | refine iO ?_ | refine iL ?_ _)); refine jH ?_ NB228_239.out _; (with_reducible repeat (first | refine iM ?_ _ | refine iO ?_ | refine iL ?_ _)); exact BK228.out) hg (Kd.R_ne HO_14.out BK228.out (by decide))); have n1_ := iC.mk (jL (g := gb229) (o := .cells #[.int .u32 0, .slice none 0 0] 42 (0, 0)) (by (with_reducible repeat (first | refine iM ?_ _ | refine iO ?_ | refine iL ?_ _)); refine jH ?_ NB229_239.out _; (with_reducible repeat (first | refine iM ?_ _ | refine iO ?_ | refine iL ?_ _)); refine jH ?_ NB229_239.out _; (with_reducible repeat (first | refine iM ?_ _ | refine iO ?_ | refine iL ?_ _)); exact BK229.out) hg (Kd.R_ne HO_14.out BK229.out (by decide))); have n2_ := iC.mk (jL (g := gb239) (o := .cells #[.int .i64 ((iT l0_1 x64_2).f0), .int .i64 ((iT l0_1 x64_2).f1)] 60 (0, 0)) (by (with_reducible repeat (first | refine iM ?_ _ | refine iO ?_ | refine iL ?_ _)); refine jD (cs := #[.int .i64 ((iT l0_1 x64_2).f0), .int .i64 0]) ?_ 1 _ rfl; (with_reducible repeat (first | refine iM ?_ _ | refine iO ?_ | refine iL ?_ _)); refine jD (cs := #[.int .i64 0, .int .i64 0]) ?_ 0 _ rfl; (with_reducible repeat (first | refine iM ?_ _ | refine iO ?_ | refine iL ?_ _)); exact BK239.out) hg (Kd.R_away HO_14.out (fun _ hk => hk.2))); have n3_ := iC.mk (hb); have n4_ := iC.mk (ho); clear BK228; clear BK229; clear BK239; clear HB; clear HO_14; have BK228 := n0_; have BK229 := n1_; have BK239 := n2_; have HB := n3_; have HO242 := n4_; clear n0_ n1_ n2_ n3_ n4_; clear ho hb hg hat))
                        go_roundg k2
                        case measure => have := HJ6.out; have := HK2.out; omega
                        case rel => exact ⟨(y240), (wrap64 (x64_2 + 1)), (by first | rfl | (simp; done) | (simp [*]; done)), H', ⟨by have := HJ6.out; have := HK2.out; omega⟩, ⟨by (with_reducible repeat (first | apply Kd.R_alloc | apply Kd.R_drewN | apply Kd.R_drew)); exact Kd.R_mono HO242.out (fun _ hk => trivial)⟩, ⟨bk_ BK228.out⟩, ⟨bk_ BK229.out⟩, ⟨by repeat (first | (with_reducible first | exact HB.out | apply iF | apply iD | apply iG | refine iE ?_ GE228.out | refine iE ?_ GE229.out | refine iE ?_ GE239.out) | exact HB.out)⟩⟩
                      · rw [if_neg c65] at H
                        exact absurd H (by simp)
                    · rw [if_neg c64] at H
                      have c64b0 : decide (((iT l0_1 x64_2).f0) < a3) = false := decide_eq_false c64
                      clear c64
                      have H' := iC.mk H
                      clear H
                      have p238 : 0 ≤ (x64_2 : Int) := of_decide_eq_true asm_
                      have q238 : x64_2 < (l0_1.length : Int) := of_decide_eq_true asm_
                      obtain ⟨ad238, e238, hx238_0, hx238_1⟩ := jK HR0_1.out x64_2 p238 q238
                      cases e238
                      replace hx238_0 := (HB.out.cell (World.block_lt_of_cell? w _ hx238_0)).trans hx238_0
                      replace hx238_1 := (HB.out.cell (World.block_lt_of_cell? w _ hx238_1)).trans hx238_1
                      replace p238 := eq_true p238
                      replace q238 := eq_true q238
                      go_wp2_with (first | ((with_reducible refine jC (N := 16) rfl ?_); (try (refine iW (by rfl) ?_; dsimp only)); refine jA ?hg (N := 16) ?hd (cs := #[.int .i64 0, .int .i64 0]) (t := 60) ?hr ?_; (case hd => rfl); (case hg => rfl); (case hr => first | (go_simp; done) | (go_simp; rfl)); intro gb239 hg w71 hbox hb; have n0_ := iC.mk (Kd.R_below (Kd.R_elderB (by (with_reducible repeat (first | apply Kd.R_alloc | apply Kd.R_drewN | apply Kd.R_drew)); exact HO_14.out) gb239 (Nat.le_of_eq hg.symm)) hb); have n1_ := iC.mk (iP (g := gb228) (o := .cells #[.int .u32 a0_0, .slice (some ad238) l0_1.length c0_1] 42 (0, 0)) (bk_ BK228.out) hb); have n2_ := iC.mk (iP (g := gb229) (o := .cells #[.int .u32 0, .slice none 0 0] 42 (0, 0)) (bk_ BK229.out) hb); have n3_ := iC.mk (iK (by repeat (first | (with_reducible first | exact HB.out | apply iF | apply iD | apply iG | refine iE ?_ GE228.out | refine iE ?_ GE229.out) | exact HB.out)) hb); have n4_ := iC.mk (hbox); have n5_ := iC.mk ((by rw [hg]; exact (iJ (by repeat (first | (with_reducible first | exact HB.out | apply iF | apply iD | apply iG | refine iE ?_ GE228.out | refine iE ?_ GE229.out) | exact HB.out))) : w.heap.size ≤ gb239)); have n6_ := iC.mk ((by rw [hg]; exact (iJ (by repeat (first | (with_reducible first | exact HB.out | apply iF | apply iD | apply iG | refine iE ?_ GE228.out | refine iE ?_ GE229.out) | exact HB.out))) : w.heap.size ≤ gb239)); have n7_ := iC.mk ((by rw [hg]; exact Nat.ne_of_lt (jE (g := gb228) (o := .cells #[.int .u32 a0_0, .slice (some ad238) l0_1.length c0_1] 42 (0, 0)) (bk_ BK228.out)) : gb228 ≠ gb239)); have n8_ := iC.mk ((by rw [hg]; exact Nat.ne_of_gt (jE (g := gb228) (o := .cells #[.int .u32 a0_0, .slice (some ad238) l0_1.length c0_1] 42 (0, 0)) (bk_ BK228.out)) : gb239 ≠ gb228)); have n9_ := iC.mk ((by rw [hg]; exact Nat.ne_of_lt (jE (g := gb229) (o := .cells #[.int .u32 0, .slice none 0 0] 42 (0, 0)) (bk_ BK229.out)) : gb229 ≠ gb239)); have n10_ := iC.mk ((by rw [hg]; exact Nat.ne_of_gt (jE (g := gb229) (o := .cells #[.int .u32 0, .slice none 0 0] 42 (0, 0)) (bk_ BK229.out)) : gb239 ≠ gb229)); clear HO_14; clear BK228; clear BK229; clear HB; have HO_14 := n0_; have BK228 := n1_; have BK229 := n2_; have HB := n3_; have BK239 := n4_; have GW239 := n5_; have GE239 := n6_; have NB228_239 := n7_; have NB239_228 := n8_; have NB229_239 := n9_; have NB239_229 := n10_; clear n0_ n1_ n2_ n3_ n4_ n5_ n6_ n7_ n8_ n9_ n10_; clear hb hbox hg; have hnb72 := NB239_228.out; have hnc72 := NB228_239.out; have hnb73 := NB239_229.out; have hnc73 := NB229_239.out; have hcz74_0 : w71.cell? ⟨gb239, 0, none⟩ = some (.int .i64 0) := (iI BK239.out 0).trans rfl; have hcz74_1 : w71.cell? ⟨gb239, 1, none⟩ = some (.int .i64 0) := (iI BK239.out 1).trans rfl; have hfz74_0 := iH BK239.out 0; have hfz74_1 := iH BK239.out 1))
                      go_roundg k2
                      case measure => have := HJ6.out; have := HK2.out; omega
                      case rel => exact ⟨(x14_2), (wrap64 (x64_2 + 1)), (by first | rfl | (simp; done) | (simp [*]; done)), H', ⟨by have := HJ6.out; have := HK2.out; omega⟩, ⟨by (with_reducible repeat (first | apply Kd.R_alloc | apply Kd.R_drewN | apply Kd.R_drew)); exact Kd.R_mono (Kd.R_far (p := ⟨gb239, 1, none⟩) (Kd.R_far (p := ⟨gb239, 0, none⟩) (Kd.R_mono HO_14.out (fun k_ hk => (⟨hk, hk.2⟩ : _ ∧ k_ ≠ gb239))) (fun _ hk => hk.2) (.int .i64 ((iT l0_1 x64_2).f0))) (fun _ hk => hk.2) (.int .i64 ((iT l0_1 x64_2).f1))) (fun _ hk => trivial)⟩, ⟨by (with_reducible repeat (first | refine iM ?_ _ | refine iO ?_ | refine iL ?_ _)); refine jH ?_ NB228_239.out _; (with_reducible repeat (first | refine iM ?_ _ | refine iO ?_ | refine iL ?_ _)); refine jH ?_ NB228_239.out _; (with_reducible repeat (first | refine iM ?_ _ | refine iO ?_ | refine iL ?_ _)); exact BK228.out⟩, ⟨by (with_reducible repeat (first | refine iM ?_ _ | refine iO ?_ | refine iL ?_ _)); refine jH ?_ NB229_239.out _; (with_reducible repeat (first | refine iM ?_ _ | refine iO ?_ | refine iL ?_ _)); refine jH ?_ NB229_239.out _; (with_reducible repeat (first | refine iM ?_ _ | refine iO ?_ | refine iL ?_ _)); exact BK229.out⟩, ⟨by repeat (first | (with_reducible first | exact HB.out | apply iF | apply iD | apply iG | refine iE ?_ GE228.out | refine iE ?_ GE229.out | refine iE ?_ GE239.out) | exact HB.out)⟩⟩
                  · rw [if_neg c63] at H
                    exact absurd H (by simp)
                · rw [if_neg c62] at H
                  exact absurd H (by simp)
              · rw [if_neg c61] at H
                have c61b0 : decide (x64_2 < (l0_1.length : Int)) = false := decide_eq_false c61
                clear c61
                by_cases c75 : x14_2.length < 8796093022208
                · rw [if_pos c75] at H
                  have LMc75 := iC.mk c75
                  clear c75
                  obtain ⟨y243, hy243⟩ : ∃ y_ : List (S60), y_ = (x14_2 ++ [(⟨a3, a5⟩ : S60)]) := ⟨_, rfl⟩
                  replace H : (if a4 < a1 then ((spans_Find.f a0_0 l0_1 a4).bind fun t246 => (if y243.length < 8796093022208 then (spans_Split.j2 k2 a4 (y243 ++ [(⟨a4, t246⟩ : S60)]) a0_0 l0_1) else (none))) else (spans_Split.j2 k2 a4 y243 a0_0 l0_1)) = some (r1, r2, r3) := by first | (rw [hy243]; with_reducible exact H) | (have H2_ := (Option.bind_some _ _).symm.trans H; rw [hy243]; with_reducible exact H2_) | (have H2_ := (Option.bind_some _ _).symm.trans H; with_reducible exact H2_) | with_reducible exact H | (rw [hy243]; exact H) | exact H
                  have Ny243 := iC.mk hy243
                  clear hy243
                  have HC76 := iC.mk H
                  clear H
                  go_upto_if 85 with (first | ((with_reducible refine kF (b := .append) (xs := #[.tmp 77, .tmp 81]) rfl ?_); (try (refine iW (by rfl) ?_; dsimp only)); at_builtin; refine Kd.R_append k60 (w0 := w) w.heap.size rfl (.tmp 77) (.tmp 81) 40 60 (.agg #[(.int .i64 0), (.int .i64 0)]) 16 rfl Try.underlying40 mY rfl (by decide) (by omega) u14 x14_2 (⟨a3, a5⟩ : S60) [.int .i64 a3, .int .i64 a5] (fun _ => True) (fun _ => False) rfl rfl ?aP (fun _ hk => hk.elim) ?aF ?aO ?aB ?aS ?aL ?_; (case aP => exact kS _ _ _ (⟨a3, a5⟩ : S60)); (case aB => exact (by repeat (first | (with_reducible first | exact HB.out | apply iF | apply iD | apply iG | refine iE ?_ GE228.out | refine iE ?_ GE229.out) | exact HB.out))); (case aF => exact (fun _ _ => trivial)); (case aO => exact (by (with_reducible repeat (first | apply Kd.R_alloc | apply Kd.R_drewN | apply Kd.R_drew)); exact HO_14.out)); (case aS => exact (iJ (by repeat (first | (with_reducible first | exact HB.out | apply iF | apply iD | apply iG | refine iE ?_ GE228.out | refine iE ?_ GE229.out) | exact HB.out)))); (case aL => have := LMc75.out; omega); intro v244 w77 ho hb hg hat; rw [← Ny243.out] at ho; have n0_ := iC.mk (jL (g := gb228) (o := .cells #[.int .u32 a0_0, .slice A0_1 l0_1.length c0_1] 42 (0, 0)) (bk_ BK228.out) hg (Kd.R_ne HO_14.out BK228.out (by decide))); have n1_ := iC.mk (jL (g := gb229) (o := .cells #[.int .u32 0, .slice none 0 0] 42 (0, 0)) (bk_ BK229.out) hg (Kd.R_ne HO_14.out BK229.out (by decide))); have n2_ := iC.mk (hb); have n3_ := iC.mk (ho); clear BK228; clear BK229; clear HB; clear HO_14; have BK228 := n0_; have BK229 := n1_; have HB := n2_; have HO245 := n3_; clear n0_ n1_ n2_ n3_; clear ho hb hg hat))
                  (try simp only [Act.put, List.setIfInBounds_toArray, List.set_cons_zero, List.set_cons_succ])
                  go_cut [14] (fun v14 wc => ∃ (kq : Nat) (x14_75 : List (S60)), iC (spans_Split.j2 kq a4 x14_75 a0_0 l0_1 = some (r1, r2, r3)) ∧ iC (kq ≤ k2) ∧ iC (Kd.R k60 60 wc w.heap.size (fun _ => True) v14 x14_75) ∧ iC (wc.heap[gb228]? = some (.cells #[.int .u32 a0_0, (.slice A0_1 l0_1.length c0_1)] 42 (0, 0))) ∧ iC (wc.heap[gb229]? = some (.cells #[.int .u32 0, (.slice none 0 0)] 42 (0, 0))) ∧ iC (Below w.heap.size w wc))
                  case first =>
                    have H := HC76.out
                    clear HC76
                    by_cases c78 : a4 < a1
                    · rw [if_pos c78] at H
                      have c78b0 : decide (a4 < a1) = true := decide_eq_true c78
                      clear c78
                      (first | rw [c78b0] | (simp only [iY, iZ]; rw [c78b0]) | skip)
                      replace H := Option.bind_eq_some_iff.mp H
                      obtain ⟨t246, A790, H⟩ := H
                      replace H : (if y243.length < 8796093022208 then (spans_Split.j2 k2 a4 (y243 ++ [(⟨a4, t246⟩ : S60)]) a0_0 l0_1) else (none)) = some (r1, r2, r3) := H
                      have A79 := iC.mk A790
                      clear A790
                      by_cases c80 : y243.length < 8796093022208
                      · rw [if_pos c80] at H
                        have LMc80 := iC.mk c80
                        clear c80
                        obtain ⟨y247, hy247⟩ : ∃ y_ : List (S60), y_ = (y243 ++ [(⟨a4, t246⟩ : S60)]) := ⟨_, rfl⟩
                        replace H : (spans_Split.j2 k2 a4 y247 a0_0 l0_1) = some (r1, r2, r3) := by first | (rw [hy247]; with_reducible exact H) | (have H2_ := (Option.bind_some _ _).symm.trans H; rw [hy247]; with_reducible exact H2_) | (have H2_ := (Option.bind_some _ _).symm.trans H; with_reducible exact H2_) | with_reducible exact H | (rw [hy247]; exact H) | exact H
                        have Ny247 := iC.mk hy247
                        clear hy247
                        have H' := iC.mk H
                        clear H
                        have hnb81 := NB228_229.out
                        have hnc81 := NB229_228.out
                        have hcz82_0 : w77.cell? ⟨gb228, 0, none⟩ = some (.int .u32 a0_0) := (iI BK228.out 0).trans rfl
                        have hcz82_1 : w77.cell? ⟨gb228, 1, none⟩ = some (.slice A0_1 l0_1.length c0_1) := (iI BK228.out 1).trans rfl
                        have hfz82_0 := iH BK228.out 0
                        have hfz82_1 := iH BK228.out 1
                        go_wp2_with (first | ((with_reducible refine iU (f := 35) rfl ?_); refine jJ (some 90) rfl rfl Try.func35 (by kernel_rfl) rfl #[.agg #[.int .u32 a0_0, .slice A0_1 l0_1.length c0_1], .int .i64 a4] rfl (by (try simp only [List.map_toArray, List.map_cons, List.map_nil]); first | done | rfl | (simp only [List.length_drop, List.length_take]; rfl)) ?_; (with_reducible refine (spans_Find.calls a0_0 _ _ l0_1 a4 t246 _ ?side1 ?side2 A79.out).mono ?_); (case side1 => repeat (first | exact (Kd.C_below HR0_1.out HB.out) | (with_reducible refine Kd.C_alloc ?_ _) | (with_reducible refine Kd.C_drewN ?_ _) | (with_reducible refine Kd.C_drew ?_))); (case side2 => exact HC0_1.out); rintro e w83 ⟨rfl, hb⟩; refine ⟨_, rfl, ?_⟩; have n0_ := iC.mk (Kd.R_below (by (with_reducible repeat (first | apply Kd.R_alloc | apply Kd.R_drewN | apply Kd.R_drew)); exact HO245.out) hb); have n1_ := iC.mk (iP (g := gb228) (o := .cells #[.int .u32 a0_0, .slice A0_1 l0_1.length c0_1] 42 (0, 0)) (bk_ BK228.out) hb); have n2_ := iC.mk (iP (g := gb229) (o := .cells #[.int .u32 0, .slice none 0 0] 42 (0, 0)) (bk_ BK229.out) hb); have n3_ := iC.mk (iK (by repeat (first | (with_reducible first | exact HB.out | apply iF | apply iD | apply iG | refine iE ?_ GE228.out | refine iE ?_ GE229.out) | exact HB.out)) hb); clear HO245; clear BK228; clear BK229; clear HB; have HO245 := n0_; have BK228 := n1_; have BK229 := n2_; have HB := n3_; clear n0_ n1_ n2_ n3_; (try clear hb); (try clear hb2); (try clear hk); (try clear hi)) | ((with_reducible refine kF (b := .append) (xs := #[.tmp 86, .tmp 92]) rfl ?_); (try (refine iW (by rfl) ?_; dsimp only)); at_builtin; refine Kd.R_append k60 (w0 := w) w.heap.size rfl (.tmp 86) (.tmp 92) 40 60 (.agg #[(.int .i64 0), (.int .i64 0)]) 16 rfl Try.underlying40 mY rfl (by decide) (by omega) v244 y243 (⟨a4, t246⟩ : S60) [.int .i64 a4, .int .i64 t246] (fun _ => True) (fun _ => False) rfl rfl ?aP (fun _ hk => hk.elim) ?aF ?aO ?aB ?aS ?aL ?_; (case aP => exact kS _ _ _ (⟨a4, t246⟩ : S60)); (case aB => exact (by repeat (first | (with_reducible first | exact HB.out | apply iF | apply iD | apply iG | refine iE ?_ GE228.out | refine iE ?_ GE229.out) | exact HB.out))); (case aF => exact (fun _ _ => trivial)); (case aO => exact (by (with_reducible repeat (first | apply Kd.R_alloc | apply Kd.R_drewN | apply Kd.R_drew)); exact HO245.out)); (case aS => exact (iJ (by repeat (first | (with_reducible first | exact HB.out | apply iF | apply iD | apply iG | refine iE ?_ GE228.out | refine iE ?_ GE229.out) | exact HB.out)))); (case aL => have := LMc80.out; omega); intro v248 w84 ho hb hg hat; rw [← Ny247.out] at ho; have n0_ := iC.mk (jL (g := gb228) (o := .cells #[.int .u32 a0_0, .slice A0_1 l0_1.length c0_1] 42 (0, 0)) (bk_ BK228.out) hg (Kd.R_ne HO245.out BK228.out (by decide))); have n1_ := iC.mk (jL (g := gb229) (o := .cells #[.int .u32 0, .slice none 0 0] 42 (0, 0)) (bk_ BK229.out) hg (Kd.R_ne HO245.out BK229.out (by decide))); have n2_ := iC.mk (hb); have n3_ := iC.mk (ho); clear BK228; clear BK229; clear HB; clear HO245; have BK228 := n0_; have BK229 := n1_; have HB := n2_; have HO249 := n3_; clear n0_ n1_ n2_ n3_; clear ho hb hg hat))
                        go_meet
                        case rel => exact ⟨_, (y247), H', ⟨by have := HJ6.out; have := HK2.out; first | omega | exact Nat.le_refl _⟩, ⟨by (with_reducible repeat (first | apply Kd.R_alloc | apply Kd.R_drewN | apply Kd.R_drew)); exact HO249.out⟩, ⟨bk_ BK228.out⟩, ⟨bk_ BK229.out⟩, ⟨by repeat (first | (with_reducible first | exact HB.out | apply iF | apply iD | apply iG | refine iE ?_ GE228.out | refine iE ?_ GE229.out) | exact HB.out)⟩⟩
                      · rw [if_neg c80] at H
                        exact absurd H (by simp)
                    · rw [if_neg c78] at H
                      have c78b0 : decide (a4 < a1) = false := decide_eq_false c78
                      clear c78
                      (first | rw [c78b0] | (simp only [iY, iZ]; rw [c78b0]) | skip)
                      have H' := iC.mk H
                      clear H
                      go_wp2
                      go_meet
                      case rel => exact ⟨_, (y243), H', ⟨by have := HJ6.out; have := HK2.out; first | omega | exact Nat.le_refl _⟩, ⟨by (with_reducible repeat (first | apply Kd.R_alloc | apply Kd.R_drewN | apply Kd.R_drew)); exact HO245.out⟩, ⟨bk_ BK228.out⟩, ⟨bk_ BK229.out⟩, ⟨by repeat (first | (with_reducible first | exact HB.out | apply iF | apply iD | apply iG | refine iE ?_ GE228.out | refine iE ?_ GE229.out) | exact HB.out)⟩⟩
                  case rest =>
                    clear HC76
                    try clear c1
                    try clear c2
                    try clear p2
                    try clear q2
                    try clear hx2
                    try clear c3
                    try clear c4
                    try clear c5
                    try clear c6
                    try clear p6
                    try clear c7
                    try clear c8
                    try clear c11
                    try clear c12
                    try clear c12b0
                    try clear c13
                    try clear c16
                    try clear c16b0
                    try clear c17
                    try clear c20
                    try clear c20b0
                    try clear c21
                    try clear p23
                    try clear q23
                    try clear hx23
                    try clear c24
                    try clear c24b0
                    try clear c25
                    try clear c28
                    try clear c28b0
                    try clear c29
                    try clear c30
                    try clear c33
                    try clear c35
                    try clear c36
                    try clear c39
                    try clear c40
                    try clear c44
                    try clear c45
                    try clear c53
                    try clear c61
                    try clear c61b0
                    try clear c62
                    try clear c62b0
                    try clear c63
                    try clear c63b0
                    try clear c64
                    try clear c64b0
                    try clear p64
                    try clear c65
                    try clear c67
                    try clear c68
                    try clear c72
                    try clear c73
                    try clear c75
                    try clear c78
                    try clear c78b0
                    try clear c80
                    try clear c81
                    try clear hcz14_0
                    try clear hcz14_1
                    try clear hcz18_0
                    try clear hcz18_1
                    try clear hcz22_0
                    try clear hcz22_1
                    try clear hcz26_0
                    try clear hcz26_1
                    try clear hcz30_0
                    try clear hcz30_1
                    try clear hcz34_0
                    try clear hcz34_1
                    try clear hcz37_0
                    try clear hcz37_1
                    try clear hcz41_0
                    try clear hcz41_1
                    try clear hcz46_0
                    try clear hcz46_1
                    try clear hcz52_0
                    try clear hcz52_1
                    try clear hcz54_0
                    try clear hcz54_1
                    try clear hcz60_0
                    try clear hcz60_1
                    try clear hcz69_0
                    try clear hcz69_1
                    try clear hcz74_0
                    try clear hcz74_1
                    try clear hcz82_0
                    try clear hcz82_1
                    try clear hfz14_0
                    try clear hfz14_1
                    try clear hfz18_0
                    try clear hfz18_1
                    try clear hfz22_0
                    try clear hfz22_1
                    try clear hfz26_0
                    try clear hfz26_1
                    try clear hfz30_0
                    try clear hfz30_1
                    try clear hfz34_0
                    try clear hfz34_1
                    try clear hfz37_0
                    try clear hfz37_1
                    try clear hfz41_0
                    try clear hfz41_1
                    try clear hfz46_0
                    try clear hfz46_1
                    try clear hfz52_0
                    try clear hfz52_1
                    try clear hfz54_0
                    try clear hfz54_1
                    try clear hfz60_0
                    try clear hfz60_1
                    try clear hfz69_0
                    try clear hfz69_1
                    try clear hfz74_0
                    try clear hfz74_1
                    try clear hfz82_0
                    try clear hfz82_1
                    try clear hx238_0
                    try clear hx238_1
                    try clear p2
                    try clear p238
                    try clear q238
                    obtain ⟨kq, x14_75, HA, HJ75, HO_14, BK228, BK229, HB⟩ := hcut
                    cases kq with
                    | zero => exact absurd HA.out (by simp [spans_Split.j2])
                    | succ kj75 =>
                      have H := HA.out
                      clear HA
                      simp only [spans_Split.j2] at H
                      have H' := iC.mk H
                      clear H
                      have hnb85 := NB228_229.out
                      have hnc85 := NB229_228.out
                      have hcz86_0 : wc.cell? ⟨gb228, 0, none⟩ = some (.int .u32 a0_0) := (iI BK228.out 0).trans rfl
                      have hcz86_1 : wc.cell? ⟨gb228, 1, none⟩ = some (.slice A0_1 l0_1.length c0_1) := (iI BK228.out 1).trans rfl
                      have hfz86_0 := iH BK228.out 0
                      have hfz86_1 := iH BK228.out 1
                      go_wp2
                      go_loopg [14, 97] kj75 (fun kq v14 v97 w' => ∃ (x14_4 : List (S60)) (x97_4 : Int), v97 = .int .i64 x97_4 ∧ iC (spans_Split.l1 kq a4 x14_4 l0_1 (l0_1.length : Int) x97_4 a0_0 l0_1 = some (r1, r2, r3)) ∧ iC (kq ≤ kj75) ∧ iC (Kd.R k60 60 w' w.heap.size (fun _ => True) v14 x14_4) ∧ iC (w'.heap[gb228]? = some (.cells #[.int .u32 a0_0, (.slice A0_1 l0_1.length c0_1)] 42 (0, 0))) ∧ iC (w'.heap[gb229]? = some (.cells #[.int .u32 0, (.slice none 0 0)] 42 (0, 0))) ∧ iC (Below w.heap.size w w'))
                      case atStart => exact ⟨(x14_75), (0), (by first | rfl | (simp; done) | (simp [*]; done)), H', ⟨Nat.le_refl _⟩, ⟨by (with_reducible repeat (first | apply Kd.R_alloc | apply Kd.R_drewN | apply Kd.R_drew)); exact HO_14.out⟩, ⟨bk_ BK228.out⟩, ⟨bk_ BK229.out⟩, ⟨by repeat (first | (with_reducible first | exact HB.out | apply iF | apply iD | apply iG | refine iE ?_ GE228.out | refine iE ?_ GE229.out) | exact HB.out)⟩⟩
                      case round =>
                        clear H'
                        try clear c1
                        try clear c2
                        try clear p2
                        try clear q2
                        try clear hx2
                        try clear c3
                        try clear c4
                        try clear c5
                        try clear c6
                        try clear p6
                        try clear c7
                        try clear c8
                        try clear c11
                        try clear c12
                        try clear c12b0
                        try clear c13
                        try clear c16
                        try clear c16b0
                        try clear c17
                        try clear c20
                        try clear c20b0
                        try clear c21
                        try clear p23
                        try clear q23
                        try clear hx23
                        try clear c24
                        try clear c24b0
                        try clear c25
                        try clear c28
                        try clear c28b0
                        try clear c29
                        try clear c30
                        try clear c33
                        try clear c35
                        try clear c36
                        try clear c39
                        try clear c40
                        try clear c44
                        try clear c45
                        try clear c53
                        try clear c61
                        try clear c61b0
                        try clear c62
                        try clear c62b0
                        try clear c63
                        try clear c63b0
                        try clear c64
                        try clear c64b0
                        try clear p64
                        try clear c65
                        try clear c67
                        try clear c68
                        try clear c72
                        try clear c73
                        try clear c75
                        try clear c78
                        try clear c78b0
                        try clear c80
                        try clear c81
                        try clear c85
                        try clear hcz14_0
                        try clear hcz14_1
                        try clear hcz18_0
                        try clear hcz18_1
                        try clear hcz22_0
                        try clear hcz22_1
                        try clear hcz26_0
                        try clear hcz26_1
                        try clear hcz30_0
                        try clear hcz30_1
                        try clear hcz34_0
                        try clear hcz34_1
                        try clear hcz37_0
                        try clear hcz37_1
                        try clear hcz41_0
                        try clear hcz41_1
                        try clear hcz46_0
                        try clear hcz46_1
                        try clear hcz52_0
                        try clear hcz52_1
                        try clear hcz54_0
                        try clear hcz54_1
                        try clear hcz60_0
                        try clear hcz60_1
                        try clear hcz69_0
                        try clear hcz69_1
                        try clear hcz74_0
                        try clear hcz74_1
                        try clear hcz82_0
                        try clear hcz82_1
                        try clear hcz86_0
                        try clear hcz86_1
                        try clear hfz14_0
                        try clear hfz14_1
                        try clear hfz18_0
                        try clear hfz18_1
                        try clear hfz22_0
                        try clear hfz22_1
                        try clear hfz26_0
                        try clear hfz26_1
                        try clear hfz30_0
                        try clear hfz30_1
                        try clear hfz34_0
                        try clear hfz34_1
                        try clear hfz37_0
                        try clear hfz37_1
                        try clear hfz41_0
                        try clear hfz41_1
                        try clear hfz46_0
                        try clear hfz46_1
                        try clear hfz52_0
                        try clear hfz52_1
                        try clear hfz54_0
                        try clear hfz54_1
                        try clear hfz60_0
                        try clear hfz60_1
                        try clear hfz69_0
                        try clear hfz69_1
                        try clear hfz74_0
                        try clear hfz74_1
                        try clear hfz82_0
                        try clear hfz82_1
                        try clear hfz86_0
                        try clear hfz86_1
                        try clear hx238_0
                        try clear hx238_1
                        try clear p2
                        try clear p23
                        try clear p238
                        try clear p6
                        try clear p64
                        try clear q2
                        try clear q23
                        try clear q238
                        obtain ⟨x14_4, x97_4, rfl, HA, HK4, HO_14, BK228, BK229, HB⟩ := hrel
                        cases gk with
                        | zero => exact absurd HA.out (by simp [spans_Split.l1])
                        | succ k4 =>
                          have H := HA.out
                          clear HA
                          simp only [spans_Split.l1] at H
                          by_cases c87 : x97_4 < (l0_1.length : Int)
                          · rw [if_pos c87] at H
                            have c87b0 : decide (x97_4 < (l0_1.length : Int)) = true := decide_eq_true c87
                            clear c87
                            by_cases c88 : 0 ≤ x97_4
                            · rw [if_pos c88] at H
                              have c88b0 : decide (0 ≤ x97_4) = true := decide_eq_true c88
                              clear c88
                              by_cases c89 : x97_4 < (l0_1.length : Int)
                              · rw [if_pos c89] at H
                                have c89b0 : decide (x97_4 < (l0_1.length : Int)) = true := decide_eq_true c89
                                clear c89
                                by_cases c90 : ((iT l0_1 x97_4).f0) > a4
                                · rw [if_pos c90] at H
                                  have c90b0 : decide (a4 < ((iT l0_1 x97_4).f0)) = true := decide_eq_true c90
                                  clear c90
                                  by_cases c91 : x14_4.length < 8796093022208
                                  · rw [if_pos c91] at H
                                    have LMc91 := iC.mk c91
                                    clear c91
                                    obtain ⟨y252, hy252⟩ : ∃ y_ : List (S60), y_ = (x14_4 ++ [(⟨(iT l0_1 x97_4).f0, (iT l0_1 x97_4).f1⟩ : S60)]) := ⟨_, rfl⟩
                                    replace H : (spans_Split.l1 k4 a4 y252 l0_1 (l0_1.length : Int) (wrap64 (x97_4 + 1)) a0_0 l0_1) = some (r1, r2, r3) := by first | (rw [hy252]; with_reducible exact H) | (have H2_ := (Option.bind_some _ _).symm.trans H; rw [hy252]; with_reducible exact H2_) | (have H2_ := (Option.bind_some _ _).symm.trans H; with_reducible exact H2_) | with_reducible exact H | (rw [hy252]; exact H) | exact H
                                    have Ny252 := iC.mk hy252
                                    clear hy252
                                    have H' := iC.mk H
                                    clear H
                                    have p250 : 0 ≤ (x97_4 : Int) := of_decide_eq_true asm_
                                    have q250 : x97_4 < (l0_1.length : Int) := of_decide_eq_true asm_
                                    obtain ⟨ad250, e250, hx250_0, hx250_1⟩ := jK HR0_1.out x97_4 p250 q250
                                    cases e250
                                    replace hx250_0 := (HB.out.cell (World.block_lt_of_cell? w _ hx250_0)).trans hx250_0
                                    replace hx250_1 := (HB.out.cell (World.block_lt_of_cell? w _ hx250_1)).trans hx250_1
                                    replace p250 := eq_true p250
                                    replace q250 := eq_true q250
                                    go_wp2_with (first | ((with_reducible refine jC (N := 18) rfl ?_); (try (refine iW (by rfl) ?_; dsimp only)); refine jA ?hg (N := 18) ?hd (cs := #[.int .i64 0, .int .i64 0]) (t := 60) ?hr ?_; (case hd => rfl); (case hg => rfl); (case hr => first | (go_simp; done) | (go_simp; rfl)); intro gb251 hg w92 hbox hb; have n0_ := iC.mk (Kd.R_below (Kd.R_elderB (by (with_reducible repeat (first | apply Kd.R_alloc | apply Kd.R_drewN | apply Kd.R_drew)); exact HO_14.out) gb251 (Nat.le_of_eq hg.symm)) hb); have n1_ := iC.mk (iP (g := gb228) (o := .cells #[.int .u32 a0_0, .slice (some ad250) l0_1.length c0_1] 42 (0, 0)) (bk_ BK228.out) hb); have n2_ := iC.mk (iP (g := gb229) (o := .cells #[.int .u32 0, .slice none 0 0] 42 (0, 0)) (bk_ BK229.out) hb); have n3_ := iC.mk (iK (by repeat (first | (with_reducible first | exact HB.out | apply iF | apply iD | apply iG | refine iE ?_ GE228.out | refine iE ?_ GE229.out) | exact HB.out)) hb); have n4_ := iC.mk (hbox); have n5_ := iC.mk ((by rw [hg]; exact (iJ (by repeat (first | (with_reducible first | exact HB.out | apply iF | apply iD | apply iG | refine iE ?_ GE228.out | refine iE ?_ GE229.out) | exact HB.out))) : w.heap.size ≤ gb251)); have n6_ := iC.mk ((by rw [hg]; exact (iJ (by repeat (first | (with_reducible first | exact HB.out | apply iF | apply iD | apply iG | refine iE ?_ GE228.out | refine iE ?_ GE229.out) | exact HB.out))) : w.heap.size ≤ gb251)); have n7_ := iC.mk ((by rw [hg]; exact Nat.ne_of_lt (jE (g := gb228) (o := .cells #[.int .u32 a0_0, .slice (some ad250) l0_1.length c0_1] 42 (0, 0)) (bk_ BK228.out)) : gb228 ≠ gb251)); have n8_ := iC.mk ((by rw [hg]; exact Nat.ne_of_gt (jE (g := gb228) (o := .cells #[.int .u32 a0_0, .slice (some ad250) l0_1.length c0_1] 42 (0, 0)) (bk_ BK228.out)) : gb251 ≠ gb228)); have n9_ := iC.mk ((by rw [hg]; exact Nat.ne_of_lt (jE (g := gb229) (o := .cells #[.int .u32 0, .slice none 0 0] 42 (0, 0)) (bk_ BK229.out)) : gb229 ≠ gb251)); have n10_ := iC.mk ((by rw [hg]; exact Nat.ne_of_gt (jE (g := gb229) (o := .cells #[.int .u32 0, .slice none 0 0] 42 (0, 0)) (bk_ BK229.out)) : gb251 ≠ gb229)); clear HO_14; clear BK228; clear BK229; clear HB; have HO_14 := n0_; have BK228 := n1_; have BK229 := n2_; have HB := n3_; have BK251 := n4_; have GW251 := n5_; have GE251 := n6_; have NB228_251 := n7_; have NB251_228 := n8_; have NB229_251 := n9_; have NB251_229 := n10_; clear n0_ n1_ n2_ n3_ n4_ n5_ n6_ n7_ n8_ n9_ n10_; clear hb hbox hg; have hnb93 := NB251_228.out; have hnc93 := NB228_251.out; have hnb94 := NB251_229.out; have hnc94 := NB229_251.out; have hcz95_0 : w92.cell? ⟨gb251, 0, none⟩ = some (.int .i64 0) := (iI BK251.out 0).trans rfl; have hcz95_1 : w92.cell? ⟨gb251, 1, none⟩ = some (.int .i64 0) := (iI BK251.out 1).trans rfl; have hfz95_0 := iH BK251.out 0; have hfz95_1 := iH BK251.out 1) | ((with_reducible refine kF (b := .append) (xs := #[.tmp 105, .tmp 107]) rfl ?_); (try (refine iW (by rfl) ?_; dsimp only)); at_builtin; refine Kd.R_append k60 (w0 := w) w.heap.size rfl (.tmp 105) (.tmp 107) 40 60 (.agg #[(.int .i64 0), (.int .i64 0)]) 16 rfl Try.underlying40 mY rfl (by decide) (by omega) u14 x14_4 (⟨(iT l0_1 x97_4).f0, (iT l0_1 x97_4).f1⟩ : S60) [.int .i64 ((iT l0_1 x97_4).f0), .int .i64 ((iT l0_1 x97_4).f1)] (fun k_ => k_ ≠ gb251) (fun _ => False) rfl (by first | (go_simp; done) | (go_simp; rfl)) ?aP (fun _ hk => hk.elim) ?aF ?aO ?aB ?aS ?aL ?_; (case aP => exact kS _ _ _ (⟨(iT l0_1 x97_4).f0, (iT l0_1 x97_4).f1⟩ : S60)); (case aB => exact (by repeat (first | (with_reducible first | exact HB.out | apply iF | apply iD | apply iG | refine iE ?_ GE228.out | refine iE ?_ GE229.out | refine iE ?_ GE251.out) | exact HB.out))); (case aF => exact (fun k_ hk => Kd.freshB (g := gb251) (o := .cells #[.int .i64 ((iT l0_1 x97_4).f0), .int .i64 ((iT l0_1 x97_4).f1)] 60 (0, 0)) (by (with_reducible repeat (first | refine iM ?_ _ | refine iO ?_ | refine iL ?_ _)); refine jD (cs := #[.int .i64 ((iT l0_1 x97_4).f0), .int .i64 0]) ?_ 1 _ rfl; (with_reducible repeat (first | refine iM ?_ _ | refine iO ?_ | refine iL ?_ _)); refine jD (cs := #[.int .i64 0, .int .i64 0]) ?_ 0 _ rfl; (with_reducible repeat (first | refine iM ?_ _ | refine iO ?_ | refine iL ?_ _)); exact BK251.out) k_ hk)); (case aO => exact (by (with_reducible repeat (first | apply Kd.R_alloc | apply Kd.R_drewN | apply Kd.R_drew)); exact Kd.R_mono (Kd.R_far (p := ⟨gb251, 1, none⟩) (Kd.R_far (p := ⟨gb251, 0, none⟩) (Kd.R_mono HO_14.out (fun k_ hk => (⟨hk, hk.2⟩ : _ ∧ k_ ≠ gb251))) (fun _ hk => hk.2) (.int .i64 ((iT l0_1 x97_4).f0))) (fun _ hk => hk.2) (.int .i64 ((iT l0_1 x97_4).f1))) (fun _ hk => hk.1.2))); (case aS => exact (iJ (by repeat (first | (with_reducible first | exact HB.out | apply iF | apply iD | apply iG | refine iE ?_ GE228.out | refine iE ?_ GE229.out | refine iE ?_ GE251.out) | exact HB.out)))); (case aL => have := LMc91.out; omega); intro v253 w96 ho hb hg hat; rw [← Ny252.out] at ho; have n0_ := iC.mk (jL (g := gb228) (o := .cells #[.int .u32 a0_0, .slice (some ad250) l0_1.length c0_1] 42 (0, 0)) (by (with_reducible repeat (first | refine iM ?_ _ | refine iO ?_ | refine iL ?_ _)); refine jH ?_ NB228_251.out _; (with_reducible repeat (first | refine iM ?_ _ | refine iO ?_ | refine iL ?_ _)); refine jH ?_ NB228_251.out _; (with_reducible repeat (first | refine iM ?_ _ | refine iO ?_ | refine iL ?_ _)); exact BK228.out) hg (Kd.R_ne HO_14.out BK228.out (by decide))); have n1_ := iC.mk (jL (g := gb229) (o := .cells #[.int .u32 0, .slice none 0 0] 42 (0, 0)) (by (with_reducible repeat (first | refine iM ?_ _ | refine iO ?_ | refine iL ?_ _)); refine jH ?_ NB229_251.out _; (with_reducible repeat (first | refine iM ?_ _ | refine iO ?_ | refine iL ?_ _)); refine jH ?_ NB229_251.out _; (with_reducible repeat (first | refine iM ?_ _ | refine iO ?_ | refine iL ?_ _)); exact BK229.out) hg (Kd.R_ne HO_14.out BK229.out (by decide))); have n2_ := iC.mk (jL (g := gb251) (o := .cells #[.int .i64 ((iT l0_1 x97_4).f0), .int .i64 ((iT l0_1 x97_4).f1)] 60 (0, 0)) (by (with_reducible repeat (first | refine iM ?_ _ | refine iO ?_ | refine iL ?_ _)); refine jD (cs := #[.int .i64 ((iT l0_1 x97_4).f0), .int .i64 0]) ?_ 1 _ rfl; (with_reducible repeat (first | refine iM ?_ _ | refine iO ?_ | refine iL ?_ _)); refine jD (cs := #[.int .i64 0, .int .i64 0]) ?_ 0 _ rfl; (with_reducible repeat (first | refine iM ?_ _ | refine iO ?_ | refine iL ?_ _)); exact BK251.out) hg (Kd.R_away HO_14.out (fun _ hk => hk.2))); have n3_ := iC.mk (hb); have n4_ := iC.mk (ho); clear BK228; clear BK229; clear BK251; clear HB; clear HO_14; have BK228 := n0_; have BK229 := n1_; have BK251 := n2_; have HB := n3_; have HO254 := n4_; clear n0_ n1_ n2_ n3_ n4_; clear ho hb hg hat))
                                    go_roundg k4
                                    case measure => have := HJ6.out; have := HK2.out; have := HJ75.out; have := HK4.out; omega
                                    case rel => exact ⟨(y252), (wrap64 (x97_4 + 1)), (by first | rfl | (simp; done) | (simp [*]; done)), H', ⟨by have := HJ6.out; have := HK2.out; have := HJ75.out; have := HK4.out; omega⟩, ⟨by (with_reducible repeat (first | apply Kd.R_alloc | apply Kd.R_drewN | apply Kd.R_drew)); exact Kd.R_mono HO254.out (fun _ hk => trivial)⟩, ⟨bk_ BK228.out⟩, ⟨bk_ BK229.out⟩, ⟨by repeat (first | (with_reducible first | exact HB.out | apply iF | apply iD | apply iG | refine iE ?_ GE228.out | refine iE ?_ GE229.out | refine iE ?_ GE251.out) | exact HB.out)⟩⟩
                                  · rw [if_neg c91] at H
                                    exact absurd H (by simp)
                                · rw [if_neg c90] at H
                                  have c90b0 : decide (a4 < ((iT l0_1 x97_4).f0)) = false := decide_eq_false c90
                                  clear c90
                                  have H' := iC.mk H
                                  clear H
                                  have p250 : 0 ≤ (x97_4 : Int) := of_decide_eq_true asm_
                                  have q250 : x97_4 < (l0_1.length : Int) := of_decide_eq_true asm_
                                  obtain ⟨ad250, e250, hx250_0, hx250_1⟩ := jK HR0_1.out x97_4 p250 q250
                                  cases e250
                                  replace hx250_0 := (HB.out.cell (World.block_lt_of_cell? w _ hx250_0)).trans hx250_0
                                  replace hx250_1 := (HB.out.cell (World.block_lt_of_cell? w _ hx250_1)).trans hx250_1
                                  replace p250 := eq_true p250
                                  replace q250 := eq_true q250
                                  go_wp2_with (first | ((with_reducible refine jC (N := 18) rfl ?_); (try (refine iW (by rfl) ?_; dsimp only)); refine jA ?hg (N := 18) ?hd (cs := #[.int .i64 0, .int .i64 0]) (t := 60) ?hr ?_; (case hd => rfl); (case hg => rfl); (case hr => first | (go_simp; done) | (go_simp; rfl)); intro gb251 hg w97 hbox hb; have n0_ := iC.mk (Kd.R_below (Kd.R_elderB (by (with_reducible repeat (first | apply Kd.R_alloc | apply Kd.R_drewN | apply Kd.R_drew)); exact HO_14.out) gb251 (Nat.le_of_eq hg.symm)) hb); have n1_ := iC.mk (iP (g := gb228) (o := .cells #[.int .u32 a0_0, .slice (some ad250) l0_1.length c0_1] 42 (0, 0)) (bk_ BK228.out) hb); have n2_ := iC.mk (iP (g := gb229) (o := .cells #[.int .u32 0, .slice none 0 0] 42 (0, 0)) (bk_ BK229.out) hb); have n3_ := iC.mk (iK (by repeat (first | (with_reducible first | exact HB.out | apply iF | apply iD | apply iG | refine iE ?_ GE228.out | refine iE ?_ GE229.out) | exact HB.out)) hb); have n4_ := iC.mk (hbox); have n5_ := iC.mk ((by rw [hg]; exact (iJ (by repeat (first | (with_reducible first | exact HB.out | apply iF | apply iD | apply iG | refine iE ?_ GE228.out | refine iE ?_ GE229.out) | exact HB.out))) : w.heap.size ≤ gb251)); have n6_ := iC.mk ((by rw [hg]; exact (iJ (by repeat (first | (with_reducible first | exact HB.out | apply iF | apply iD | apply iG | refine iE ?_ GE228.out | refine iE ?_ GE229.out) | exact HB.out))) : w.heap.size ≤ gb251)); have n7_ := iC.mk ((by rw [hg]; exact Nat.ne_of_lt (jE (g := gb228) (o := .cells #[.int .u32 a0_0, .slice (some ad250) l0_1.length c0_1] 42 (0, 0)) (bk_ BK228.out)) : gb228 ≠ gb251)); have n8_ := iC.mk ((by rw [hg]; exact Nat.ne_of_gt (jE (g := gb228) (o := .cells #[.int .u32 a0_0, .slice (some ad250) l0_1.length c0_1] 42 (0, 0)) (bk_ BK228.out)) : gb251 ≠ gb228)); have n9_ := iC.mk ((by rw [hg]; exact Nat.ne_of_lt (jE (g := gb229) (o := .cells #[.int .u32 0, .slice none 0 0] 42 (0, 0)) (bk_ BK229.out)) : gb229 ≠ gb251)); have n10_ := iC.mk ((by rw [hg]; exact Nat.ne_of_gt (jE (g := gb229) (o := .cells #[.int .u32 0, .slice none 0 0] 42 (0, 0)) (bk_ BK229.out)) : gb251 ≠ gb229)); clear HO_14; clear BK228; clear BK229; clear HB; have HO_14 := n0_; have BK228 := n1_; have BK229 := n2_; have HB := n3_; have BK251 := n4_; have GW251 := n5_; have GE251 := n6_; have NB228_251 := n7_; have NB251_228 := n8_; have NB229_251 := n9_; have NB251_229 := n10_; clear n0_ n1_ n2_ n3_ n4_ n5_ n6_ n7_ n8_ n9_ n10_; clear hb hbox hg; have hnb98 := NB251_228.out; have hnc98 := NB228_251.out; have hnb99 := NB251_229.out; have hnc99 := NB229_251.out; have hcz100_0 : w97.cell? ⟨gb251, 0, none⟩ = some (.int .i64 0) := (iI BK251.out 0).trans rfl; have hcz100_1 : w97.cell? ⟨gb251, 1, none⟩ = some (.int .i64 0) := (iI BK251.out 1).trans rfl; have hfz100_0 := iH BK251.out 0; have hfz100_1 := iH BK251.out 1))
                                  go_roundg k4
                                  case measure => have := HJ6.out; have := HK2.out; have := HJ75.out; have := HK4.out; omega
                                  case rel => exact ⟨(x14_4), (wrap64 (x97_4 + 1)), (by first | rfl | (simp; done) | (simp [*]; done)), H', ⟨by have := HJ6.out; have := HK2.out; have := HJ75.out; have := HK4.out; omega⟩, ⟨by (with_reducible repeat (first | apply Kd.R_alloc | apply Kd.R_drewN | apply Kd.R_drew)); exact Kd.R_mono (Kd.R_far (p := ⟨gb251, 1, none⟩) (Kd.R_far (p := ⟨gb251, 0, none⟩) (Kd.R_mono HO_14.out (fun k_ hk => (⟨hk, hk.2⟩ : _ ∧ k_ ≠ gb251))) (fun _ hk => hk.2) (.int .i64 ((iT l0_1 x97_4).f0))) (fun _ hk => hk.2) (.int .i64 ((iT l0_1 x97_4).f1))) (fun _ hk => trivial)⟩, ⟨by (with_reducible repeat (first | refine iM ?_ _ | refine iO ?_ | refine iL ?_ _)); refine jH ?_ NB228_251.out _; (with_reducible repeat (first | refine iM ?_ _ | refine iO ?_ | refine iL ?_ _)); refine jH ?_ NB228_251.out _; (with_reducible repeat (first | refine iM ?_ _ | refine iO ?_ | refine iL ?_ _)); exact BK228.out⟩, ⟨by (with_reducible repeat (first | refine iM ?_ _ | refine iO ?_ | refine iL ?_ _)); refine jH ?_ NB229_251.out _; (with_reducible repeat (first | refine iM ?_ _ | refine iO ?_ | refine iL ?_ _)); refine jH ?_ NB229_251.out _; (with_reducible repeat (first | refine iM ?_ _ | refine iO ?_ | refine iL ?_ _)); exact BK229.out⟩, ⟨by repeat (first | (with_reducible first | exact HB.out | apply iF | apply iD | apply iG | refine iE ?_ GE228.out | refine iE ?_ GE229.out | refine iE ?_ GE251.out) | exact HB.out)⟩⟩
                              · rw [if_neg c89] at H
                                exact absurd H (by simp)
                            · rw [if_neg c88] at H
                              exact absurd H (by simp)
                          · rw [if_neg c87] at H
                            have c87b0 : decide (x97_4 < (l0_1.length : Int)) = false := decide_eq_false c87
                            clear c87
                            replace H := Option.bind_eq_some_iff.mp H
                            obtain ⟨t255, A1010, H⟩ := H
                            replace H : (if (t255.length : Int) > 40 then (some (0, ([] : List (S60)), 3)) else (some ((a0_0 + 1) % 4294967296, t255, 0))) = some (r1, r2, r3) := H
                            have A101 := iC.mk A1010
                            clear A1010
                            by_cases c102 : (t255.length : Int) > 40
                            · rw [if_pos c102] at H
                              have c102b0 : decide (40 < (t255.length : Int)) = true := decide_eq_true c102
                              have c102b1 : decide (40 < t255.length) = true := decide_eq_true (by omega)
                              clear c102
                              simp only [Option.some.injEq, Prod.mk.injEq] at H
                              obtain ⟨rfl, rfl, rfl⟩ := H
                              obtain ⟨Ao103, co103, eo103⟩ := Kd.R_slice HO_14.out
                              subst eo103
                              go_wp2_with (first | ((with_reducible refine iU (f := 66) rfl ?_); refine jJ (some 111) rfl rfl Try.func66 (by kernel_rfl) rfl #[.slice Ao103 x14_4.length co103] rfl (by (try simp only [List.map_toArray, List.map_cons, List.map_nil]); first | done | rfl | (simp only [List.length_drop, List.length_take]; rfl)) ?_; (refine (pJ w _ _ x14_4 t255 _ HO_14.out HB.out A101.out).mono ?_); rintro e w104 ⟨v256, rfl, ho0, hb0, hf0⟩; refine ⟨_, rfl, ?_⟩; have n1_ := iC.mk ho0; have n2_ := iC.mk (hf0 gb228 _ BK228.out (Kd.R_ne HO_14.out BK228.out (by decide))); have n3_ := iC.mk (hf0 gb229 _ BK229.out (Kd.R_ne HO_14.out BK229.out (by decide))); have n9_ := iC.mk hb0; clear HO_14 BK228 BK229 HB; have HO257 := n1_; have BK228 := n2_; have BK229 := n3_; have HB := n9_; clear hf0 hb0 n1_ n2_ n3_ n9_; (try clear hb); (try clear hb2); (try clear hk); (try clear hi); (try clear ho0); obtain ⟨Ao105, co105, eo105⟩ := Kd.R_slice HO257.out; subst eo105; have hnb106 := NB229_228.out; have hnc106 := NB228_229.out; have hcz107_0 : w104.cell? ⟨gb229, 0, none⟩ = some (.int .u32 0) := (iI BK229.out 0).trans rfl; have hcz107_1 : w104.cell? ⟨gb229, 1, none⟩ = some (.slice none 0 0) := (iI BK229.out 1).trans rfl; have hfz107_0 := iH BK229.out 0; have hfz107_1 := iH BK229.out 1))
                              refine bodyPost_ret (kM rfl _ _ gb229 42 #[.int .u32 0, .slice none 0 0] (0, 0) _ rfl (by (with_reducible repeat (first | refine iM ?_ _ | refine iO ?_ | refine iL ?_ _)); refine jD (cs := #[.int .u32 0, .slice none 0 0]) ?_ 1 _ rfl; (with_reducible repeat (first | refine iM ?_ _ | refine iO ?_ | refine iL ?_ _)); refine jD (cs := #[.int .u32 0, .slice none 0 0]) ?_ 0 _ rfl; (with_reducible repeat (first | refine iM ?_ _ | refine iO ?_ | refine iL ?_ _)); exact BK229.out) Try.underlying42 rfl (by kernel_rfl)) rfl ?_
                              exact ⟨_, by first | rfl | (simp [iR, iQ] <;> rfl) | (simp [*, iR, iQ] <;> rfl), by first | exact Kd.R_nil _ _ _ _ _ | exact Kd.N_nil _ _ _ _ _ | exact Kd.V_nil _ _ _ _ _ | exact Kd.Q_nil _ _ _ _ _ | exact Kd.S_nil _ _ _ _ _, by repeat (first | (with_reducible first | exact HB.out | apply iF | apply iD | apply iG | refine iE ?_ GE228.out | refine iE ?_ GE229.out) | exact HB.out)⟩
                            · rw [if_neg c102] at H
                              have c102b0 : decide (40 < (t255.length : Int)) = false := decide_eq_false c102
                              have c102b1 : decide (40 < t255.length) = false := decide_eq_false (by omega)
                              clear c102
                              simp only [Option.some.injEq, Prod.mk.injEq] at H
                              obtain ⟨rfl, rfl, rfl⟩ := H
                              obtain ⟨Ao108, co108, eo108⟩ := Kd.R_slice HO_14.out
                              subst eo108
                              go_wp2_with (first | ((with_reducible refine iU (f := 66) rfl ?_); refine jJ (some 111) rfl rfl Try.func66 (by kernel_rfl) rfl #[.slice Ao108 x14_4.length co108] rfl (by (try simp only [List.map_toArray, List.map_cons, List.map_nil]); first | done | rfl | (simp only [List.length_drop, List.length_take]; rfl)) ?_; (refine (pJ w _ _ x14_4 t255 _ HO_14.out HB.out A101.out).mono ?_); rintro e w109 ⟨v256, rfl, ho0, hb0, hf0⟩; refine ⟨_, rfl, ?_⟩; have n1_ := iC.mk ho0; have n2_ := iC.mk (hf0 gb228 _ BK228.out (Kd.R_ne HO_14.out BK228.out (by decide))); have n3_ := iC.mk (hf0 gb229 _ BK229.out (Kd.R_ne HO_14.out BK229.out (by decide))); have n9_ := iC.mk hb0; clear HO_14 BK228 BK229 HB; have HO257 := n1_; have BK228 := n2_; have BK229 := n3_; have HB := n9_; clear hf0 hb0 n1_ n2_ n3_ n9_; (try clear hb); (try clear hb2); (try clear hk); (try clear hi); (try clear ho0); obtain ⟨Ao110, co110, eo110⟩ := Kd.R_slice HO257.out; subst eo110; have hnb111 := NB228_229.out; have hnc111 := NB229_228.out; have hcz112_0 : w109.cell? ⟨gb228, 0, none⟩ = some (.int .u32 a0_0) := (iI BK228.out 0).trans rfl; have hcz112_1 : w109.cell? ⟨gb228, 1, none⟩ = some (.slice A0_1 l0_1.length c0_1) := (iI BK228.out 1).trans rfl; have hfz112_0 := iH BK228.out 0; have hfz112_1 := iH BK228.out 1; have hcz113_0 : w109.cell? ⟨gb229, 0, none⟩ = some (.int .u32 0) := (iI BK229.out 0).trans rfl; have hcz113_1 : w109.cell? ⟨gb229, 1, none⟩ = some (.slice none 0 0) := (iI BK229.out 1).trans rfl; have hfz113_0 := iH BK229.out 0; have hfz113_1 := iH BK229.out 1))
                              refine bodyPost_ret (kM rfl _ _ gb229 42 #[.int .u32 ((a0_0 + 1) % 4294967296), .slice Ao110 t255.length co110] (0, 0) _ rfl (by (with_reducible repeat (first | refine iM ?_ _ | refine iO ?_ | refine iL ?_ _)); refine jD (cs := #[.int .u32 ((a0_0 + 1) % 4294967296), .slice none 0 0]) ?_ 1 _ rfl; (with_reducible repeat (first | refine iM ?_ _ | refine iO ?_ | refine iL ?_ _)); refine jD (cs := #[.int .u32 0, .slice none 0 0]) ?_ 0 _ rfl; (with_reducible repeat (first | refine iM ?_ _ | refine iO ?_ | refine iL ?_ _)); exact BK229.out) Try.underlying42 rfl (by kernel_rfl)) rfl ?_
                              exact ⟨_, by first | rfl | (simp [iR, iQ] <;> rfl) | (simp [*, iR, iQ] <;> rfl), by (with_reducible repeat (first | apply Kd.R_alloc | apply Kd.R_drewN | apply Kd.R_drew)); exact Kd.R_mono (Kd.R_far (p := ⟨gb229, 1, none⟩) (Kd.R_far (p := ⟨gb229, 0, none⟩) (Kd.R_types HO257.out BK229.out (by decide)) (fun _ hk => hk.2) (.int .u32 ((a0_0 + 1) % 4294967296))) (fun _ hk => hk.2) (.slice Ao110 t255.length co110)) (fun _ hk => trivial), by repeat (first | (with_reducible first | exact HB.out | apply iF | apply iD | apply iG | refine iE ?_ GE228.out | refine iE ?_ GE229.out) | exact HB.out)⟩
                · rw [if_neg c75] at H
                  exact absurd H (by simp)
end Go.Proofs.Ytbpdejbkfpkphaa.K
end

section
namespace Go.Proofs.Ytbpdejbkfpkphaa.K
open Go.RowKit Go.Proofs.YtbpdejbkfpkphaaW.PrintWords Go.Proofs.YtbpdejbkfpkphaaW.PrintLast Go.Proofs.YtbpdejbkfpkphaaW.PrintMore
attribute [local go_sem] jU jT jZ jY jO jP jW jV
theorem zA (d : Nat) (w : World) (x0 y0 : Int) (x1 y1 : Int) :
    (Op.equalIn (d + 2) 60 (.agg #[.int .i64 x0, .int .i64 x1]) (.agg #[.int .i64 y0, .int .i64 y1])).run Try.prog w = .ok (x0 == y0 && (x1 == y1)) w := by
  refine zC Try.underlying60 (by kernel_rfl) ?_
  refine vU (by rfl) (by go_simp; rfl) (by go_simp; rfl) (by go_simp) ?_
  exact vX (by rfl) (by go_simp; rfl) (by go_simp; rfl) (by go_simp)
end Go.Proofs.Ytbpdejbkfpkphaa.K
end

section
namespace Go.Proofs.Ytbpdejbkfpkphaa.K
open Go.RowKit Go.Proofs.YtbpdejbkfpkphaaW.PrintWords Go.Proofs.YtbpdejbkfpkphaaW.PrintLast Go.Proofs.YtbpdejbkfpkphaaW.PrintMore
attribute [local go_sem] jU jT jZ jY jO jP jW jV
attribute [local go_sem high] zA
def api_Span_67.l0 : Nat → List (S60) → List (S60) → Int → Int → Option (Bool)
  | 0, _, _, _, _ => none
  | k + 1, x0, x1, x12, x13 => if x13 < x12 then (if 0 ≤ x13 then (if x13 < (x0.length : Int) then (if x13 < (x1.length : Int) then (if (!(((iT x0 x13).f0) == ((iT x1 x13).f0)) || (!(((iT x0 x13).f1) == ((iT x1 x13).f1)))) = true then (some false) else (api_Span_67.l0 k x0 x1 x12 (wrap64 (x13 + 1)))) else (none)) else (none)) else (none)) else (some true)
def api_Span_67.f (k : Nat) (l0 : List (S60)) (l1 : List (S60)) : Option (Bool) := if (l0.length : Int) = (l1.length : Int) then (api_Span_67.l0 k l0 l1 (l0.length : Int) 0) else (some false)
theorem api_Span_67.mono_l : ∀ k, (∀ y0 y1 y2 y3, LeO (api_Span_67.l0 k y0 y1 y2 y3) (api_Span_67.l0 (k + 1) y0 y1 y2 y3))
  | 0 => fun _ _ _ _ r h => by simp [api_Span_67.l0] at h
  | k + 1 => by
    have ih0 := api_Span_67.mono_l k
    · intro y0 y1 y2 y3
      unfold api_Span_67.l0
      repeat' first
      | (with_reducible exact ih0 _ _ _ _)
      | (with_reducible exact LeO.refl _)
      | (with_reducible exact LeO.none _)
      | (with_reducible refine LeO.ite ?_ ?_)
      | (with_reducible refine LeO.bind ?_ (fun _ => ?_))
      | exact ih0 _ _ _ _
      | exact LeO.none _
      | refine LeO.ite ?_ ?_
      | refine LeO.bind ?_ (fun _ => ?_)
theorem api_Span_67.mono : ∀ a0 a1 k, LeO (api_Span_67.f k a0 a1) (api_Span_67.f (k + 1) a0 a1) := by
  intro a0 a1 k
  have ih0 := api_Span_67.mono_l k
  unfold api_Span_67.f
  repeat' first
      | (with_reducible exact ih0 _ _ _ _)
      | (with_reducible exact LeO.refl _)
      | (with_reducible exact LeO.none _)
      | (with_reducible refine LeO.ite ?_ ?_)
      | (with_reducible refine LeO.bind ?_ (fun _ => ?_))
      | exact ih0 _ _ _ _
      | exact LeO.none _
      | refine LeO.ite ?_ ?_
      | refine LeO.bind ?_ (fun _ => ?_)
set_option maxHeartbeats 8000000 in
set_option maxRecDepth 100000 in
theorem api_Span_67.calls (k : Nat) (A0 : Option Addr) (c0 : Nat) (l0 : List (S60)) (A1 : Option Addr) (c1 : Nat) (l1 : List (S60)) (r : Bool) (w : World) (hr0 : Kd.C k60 w A0 l0.length l0) (hc0 : l0.length ≤ c0) (hr1 : Kd.C k60 w A1 l1.length l1) (hc1 : l1.length ≤ c1) (h : api_Span_67.f k l0 l1 = some r) :
    Calls Try.prog 67 #[.slice A0 l0.length c0, .slice A1 l1.length c1] w fun e w' => e = .returned (.bool r) ∧ jS w w' := by
  have hu60 := Try.underlying60
  have HR0 := iC.mk hr0
  have HC0 := iC.mk hc0
  clear hr0 hc0
  have HR1 := iC.mk hr1
  have HC1 := iC.mk hc1
  clear hr1 hc1
  have H : (if (l0.length : Int) = (l1.length : Int) then (api_Span_67.l0 k l0 l1 (l0.length : Int) 0) else (some false)) = some r := h
  clear h
  by_cases c3 : (l0.length : Int) = (l1.length : Int)
  · rw [if_pos c3] at H
    have c3b0 : ((l0.length : Int) == (l1.length : Int)) = true := beq_iff_eq.mpr c3
    have c3b1 : ((l0.length : Int) != (l1.length : Int)) = false := bne_eq_false_iff_eq.mpr c3
    have c3b2 : (l0.length == l1.length) = true := by first | simpa using c3 | (simp at c3 ⊢; omega)
    clear c3
    have H' := iC.mk H
    clear H
    go_enter Try.func67, Try.ntmps67
    go_wp2
    repeat (go_quiet (fail); try go_wp2)
    go_loopg [13] k (fun kq v13 w' => ∃ (x13_1 : Int), v13 = .int .i64 x13_1 ∧ iC (api_Span_67.l0 kq l0 l1 (l0.length : Int) x13_1 = some r) ∧ iC (kq ≤ k) ∧ jS w w')
    case atStart => exact ⟨(0), (by first | rfl | (simp; done) | (simp [*]; done)), H', ⟨Nat.le_refl _⟩, by repeat (first | exact jS.refl _ | apply jS.step)⟩
    case round =>
      clear H'
      try clear c1
      try clear p2
      try clear c3
      try clear c3b0
      try clear c3b1
      try clear c3b2
      obtain ⟨x13_1, rfl, HA, HK1, ⟨m1, rfl⟩⟩ := hrel
      cases gk with
      | zero => exact absurd HA.out (by simp [api_Span_67.l0])
      | succ k1 =>
        have H := HA.out
        clear HA
        simp only [api_Span_67.l0] at H
        by_cases c4 : x13_1 < (l0.length : Int)
        · rw [if_pos c4] at H
          have c4b0 : decide (x13_1 < (l0.length : Int)) = true := decide_eq_true c4
          clear c4
          by_cases c5 : 0 ≤ x13_1
          · rw [if_pos c5] at H
            have c5b0 : decide (0 ≤ x13_1) = true := decide_eq_true c5
            clear c5
            by_cases c6 : x13_1 < (l0.length : Int)
            · rw [if_pos c6] at H
              have c6b0 : decide (x13_1 < (l0.length : Int)) = true := decide_eq_true c6
              clear c6
              by_cases c7 : x13_1 < (l1.length : Int)
              · rw [if_pos c7] at H
                have c7b0 : decide (x13_1 < (l1.length : Int)) = true := decide_eq_true c7
                clear c7
                by_cases c8 : (!(((iT l0 x13_1).f0) == ((iT l1 x13_1).f0)) || (!(((iT l0 x13_1).f1) == ((iT l1 x13_1).f1)))) = true
                · rw [if_pos c8] at H
                  have c8b0 : (!(((iT l0 x13_1).f0) == ((iT l1 x13_1).f0)) || (!(((iT l0 x13_1).f1) == ((iT l1 x13_1).f1)))) = true := c8
                  clear c8
                  obtain rfl := Option.some.inj H
                  have p258 : 0 ≤ (x13_1 : Int) := of_decide_eq_true asm_
                  have q258 : x13_1 < (l0.length : Int) := of_decide_eq_true asm_
                  obtain ⟨ad258, e258, hx258_0, hx258_1⟩ := jK HR0.out x13_1 p258 q258
                  cases e258
                  replace p258 := eq_true p258
                  replace q258 := eq_true q258
                  have p259 : 0 ≤ (x13_1 : Int) := of_decide_eq_true asm_
                  have q259 : x13_1 < (l1.length : Int) := of_decide_eq_true asm_
                  obtain ⟨ad259, e259, hx259_0, hx259_1⟩ := jK HR1.out x13_1 p259 q259
                  cases e259
                  replace p259 := eq_true p259
                  replace q259 := eq_true q259
                  go_wp2
                  repeat (go_quiet (fail); try go_wp2)
                  go_ret
                  exact ⟨by first | rfl | (simp; done) | (simp [*]; done), by repeat (first | exact jS.refl _ | apply jS.step)⟩
                · rw [if_neg c8] at H
                  have c8b0 : (!(((iT l0 x13_1).f0) == ((iT l1 x13_1).f0)) || (!(((iT l0 x13_1).f1) == ((iT l1 x13_1).f1)))) = false := by simpa using c8
                  clear c8
                  have H' := iC.mk H
                  clear H
                  have p258 : 0 ≤ (x13_1 : Int) := of_decide_eq_true asm_
                  have q258 : x13_1 < (l0.length : Int) := of_decide_eq_true asm_
                  obtain ⟨ad258, e258, hx258_0, hx258_1⟩ := jK HR0.out x13_1 p258 q258
                  cases e258
                  replace p258 := eq_true p258
                  replace q258 := eq_true q258
                  have p259 : 0 ≤ (x13_1 : Int) := of_decide_eq_true asm_
                  have q259 : x13_1 < (l1.length : Int) := of_decide_eq_true asm_
                  obtain ⟨ad259, e259, hx259_0, hx259_1⟩ := jK HR1.out x13_1 p259 q259
                  cases e259
                  replace p259 := eq_true p259
                  replace q259 := eq_true q259
                  go_wp2
                  repeat (go_quiet (fail); try go_wp2)
                  go_roundg k1
                  case measure => have := HK1.out; omega
                  case rel => exact ⟨(wrap64 (x13_1 + 1)), (by first | rfl | (simp; done) | (simp [*]; done)), H', ⟨by have := HK1.out; omega⟩, by repeat (first | exact jS.refl _ | apply jS.step)⟩
              · rw [if_neg c7] at H
                exact absurd H (by simp)
            · rw [if_neg c6] at H
              exact absurd H (by simp)
          · rw [if_neg c5] at H
            exact absurd H (by simp)
        · rw [if_neg c4] at H
          have c4b0 : decide (x13_1 < (l0.length : Int)) = false := decide_eq_false c4
          clear c4
          obtain rfl := Option.some.inj H
          go_wp2
          repeat (go_quiet (fail); try go_wp2)
          go_ret
          exact ⟨by first | rfl | (simp; done) | (simp [*]; done), by repeat (first | exact jS.refl _ | apply jS.step)⟩
  · rw [if_neg c3] at H
    have c3b0 : ((l0.length : Int) == (l1.length : Int)) = false := beq_eq_false_iff_ne.mpr c3
    have c3b1 : ((l0.length : Int) != (l1.length : Int)) = true := bne_iff_ne.mpr c3
    have c3b2 : (l0.length == l1.length) = false := by first | simpa using c3 | (simp at c3 ⊢; omega)
    obtain rfl := Option.some.inj H
    go_enter Try.func67, Try.ntmps67
    go_wp2
    repeat (go_quiet (fail); try go_wp2)
    go_ret
    exact ⟨by first | rfl | (simp; done) | (simp [*]; done), by repeat (first | exact jS.refl _ | apply jS.step)⟩
end Go.Proofs.Ytbpdejbkfpkphaa.K
end

section
namespace Go.Proofs.Ytbpdejbkfpkphaa.K
open Go.RowKit Go.Proofs.YtbpdejbkfpkphaaW.PrintWords Go.Proofs.YtbpdejbkfpkphaaW.PrintLast Go.Proofs.YtbpdejbkfpkphaaW.PrintMore
attribute [local go_sem] jU jT jZ jY jO jP jW jV
def spans_Same.f (k : Nat) (a0_0 : Int) (l0_1 : List (S60)) (a1_0 : Int) (l1_1 : List (S60)) : Option (Bool) := if a0_0 = a1_0 then ((api_Span_67.f k l0_1 l1_1).bind fun t262 => (some t262)) else (some false)
theorem spans_Same.mono : ∀ a0 a1 a2 a3 k, LeO (spans_Same.f k a0 a1 a2 a3) (spans_Same.f (k + 1) a0 a1 a2 a3) := by
  intro a0 a1 a2 a3 k
  unfold spans_Same.f
  repeat' first
      | (with_reducible exact api_Span_67.mono _ _ _)
      | (with_reducible exact LeO.refl _)
      | (with_reducible exact LeO.none _)
      | (with_reducible refine LeO.ite ?_ ?_)
      | (with_reducible refine LeO.bind ?_ (fun _ => ?_))
      | exact api_Span_67.mono _ _ _
      | exact LeO.none _
      | refine LeO.ite ?_ ?_
      | refine LeO.bind ?_ (fun _ => ?_)
set_option maxHeartbeats 8000000 in
set_option maxRecDepth 100000 in
theorem spans_Same.calls (k : Nat) (a0_0 : Int) (A0_1 : Option Addr) (c0_1 : Nat) (l0_1 : List (S60)) (a1_0 : Int) (A1_1 : Option Addr) (c1_1 : Nat) (l1_1 : List (S60)) (r : Bool) (w : World) (hr0_1 : Kd.C k60 w A0_1 l0_1.length l0_1) (hc0_1 : l0_1.length ≤ c0_1) (hr1_1 : Kd.C k60 w A1_1 l1_1.length l1_1) (hc1_1 : l1_1.length ≤ c1_1) (h : spans_Same.f k a0_0 l0_1 a1_0 l1_1 = some r) :
    Calls Try.prog 31 #[.agg #[.int .u32 a0_0, .slice A0_1 l0_1.length c0_1], .agg #[.int .u32 a1_0, .slice A1_1 l1_1.length c1_1]] w fun e w' => e = .returned (.bool r) ∧ Below w.heap.size w w' := by
  have hu42 := Try.underlying42
  have HR0_1 := iC.mk hr0_1
  have HC0_1 := iC.mk hc0_1
  clear hr0_1 hc0_1
  have HR1_1 := iC.mk hr1_1
  have HC1_1 := iC.mk hc1_1
  clear hr1_1 hc1_1
  have HB := iC.mk (Below.refl w.heap.size w)
  have H : (if a0_0 = a1_0 then ((api_Span_67.f k l0_1 l1_1).bind fun t262 => (some t262)) else (some false)) = some r := h
  clear h
  by_cases c3 : a0_0 = a1_0
  · rw [if_pos c3] at H
    have c3b0 : (a0_0 == a1_0) = true := beq_iff_eq.mpr c3
    have c3b1 : (a0_0 != a1_0) = false := bne_eq_false_iff_eq.mpr c3
    clear c3
    replace H := Option.bind_eq_some_iff.mp H
    obtain ⟨t262, A40, H⟩ := H
    replace H : (some t262) = some r := H
    have A4 := iC.mk A40
    clear A40
    obtain rfl := Option.some.inj H
    go_enter Try.func31, Try.ntmps31
    go_wp2_with (first | ((with_reducible refine jC (N := 2) rfl ?_); refine jA ?hg (N := 2) ?hd (cs := #[.int .u32 a0_0, .slice A0_1 l0_1.length c0_1]) (t := 42) ?hr ?_; (case hd => rfl); (case hg => rfl); (case hr => first | (go_simp; done) | (go_simp; rfl)); intro gb260 hg w5 hbox hb; have n0_ := iC.mk (iK hb_ hb); have n1_ := iC.mk (hbox); have n2_ := iC.mk ((by rw [hg]; exact (iJ hb_) : w.heap.size ≤ gb260)); have n3_ := iC.mk ((by rw [hg]; exact (iJ hb_) : w.heap.size ≤ gb260)); clear HB; have HB := n0_; have BK260 := n1_; have GW260 := n2_; have GE260 := n3_; clear n0_ n1_ n2_ n3_; clear hb hbox hg) | ((with_reducible refine jC (N := 3) rfl ?_); refine jA ?hg (N := 3) ?hd (cs := #[.int .u32 a1_0, .slice A1_1 l1_1.length c1_1]) (t := 42) ?hr ?_; (case hd => rfl); (case hg => rfl); (case hr => first | (go_simp; done) | (go_simp; rfl)); intro gb261 hg w6 hbox hb; have n0_ := iC.mk (iP (g := gb260) (o := .cells #[.int .u32 a0_0, .slice A0_1 l0_1.length c0_1] 42 (0, 0)) (bk_ BK260.out) hb); have n1_ := iC.mk (iK (by repeat (first | (with_reducible first | exact HB.out | apply iF | apply iD | apply iG | refine iE ?_ GE260.out) | exact HB.out)) hb); have n2_ := iC.mk (hbox); have n3_ := iC.mk ((by rw [hg]; exact (iJ (by repeat (first | (with_reducible first | exact HB.out | apply iF | apply iD | apply iG | refine iE ?_ GE260.out) | exact HB.out))) : w.heap.size ≤ gb261)); have n4_ := iC.mk ((by rw [hg]; exact (iJ (by repeat (first | (with_reducible first | exact HB.out | apply iF | apply iD | apply iG | refine iE ?_ GE260.out) | exact HB.out))) : w.heap.size ≤ gb261)); have n5_ := iC.mk ((by rw [hg]; exact Nat.ne_of_lt (jE (g := gb260) (o := .cells #[.int .u32 a0_0, .slice A0_1 l0_1.length c0_1] 42 (0, 0)) (bk_ BK260.out)) : gb260 ≠ gb261)); have n6_ := iC.mk ((by rw [hg]; exact Nat.ne_of_gt (jE (g := gb260) (o := .cells #[.int .u32 a0_0, .slice A0_1 l0_1.length c0_1] 42 (0, 0)) (bk_ BK260.out)) : gb261 ≠ gb260)); clear BK260; clear HB; have BK260 := n0_; have HB := n1_; have BK261 := n2_; have GW261 := n3_; have GE261 := n4_; have NB260_261 := n5_; have NB261_260 := n6_; clear n0_ n1_ n2_ n3_ n4_ n5_ n6_; clear hb hbox hg; have hnb7 := NB260_261.out; have hnc7 := NB261_260.out; have hcz8_0 : w6.cell? ⟨gb260, 0, none⟩ = some (.int .u32 a0_0) := (iI BK260.out 0).trans rfl; have hcz8_1 : w6.cell? ⟨gb260, 1, none⟩ = some (.slice A0_1 l0_1.length c0_1) := (iI BK260.out 1).trans rfl; have hfz8_0 := iH BK260.out 0; have hfz8_1 := iH BK260.out 1; have hcz9_0 : w6.cell? ⟨gb261, 0, none⟩ = some (.int .u32 a1_0) := (iI BK261.out 0).trans rfl; have hcz9_1 : w6.cell? ⟨gb261, 1, none⟩ = some (.slice A1_1 l1_1.length c1_1) := (iI BK261.out 1).trans rfl; have hfz9_0 := iH BK261.out 0; have hfz9_1 := iH BK261.out 1) | (go_at_call 67; (with_reducible refine (api_Span_67.calls k _ _ l0_1 _ _ l1_1 t262 _ ?side1 ?side2 ?side3 ?side4 A4.out).mono ?_); (case side1 => repeat (first | exact (Kd.C_below HR0_1.out HB.out) | (with_reducible refine Kd.C_alloc ?_ _) | (with_reducible refine Kd.C_drewN ?_ _) | (with_reducible refine Kd.C_drew ?_))); (case side2 => exact HC0_1.out); (case side3 => repeat (first | exact (Kd.C_below HR1_1.out HB.out) | (with_reducible refine Kd.C_alloc ?_ _) | (with_reducible refine Kd.C_drewN ?_ _) | (with_reducible refine Kd.C_drew ?_))); (case side4 => exact HC1_1.out); rintro e w' ⟨rfl, ⟨nd, rfl⟩⟩))
    go_ret
    exact ⟨by first | rfl | (simp [iR, iQ] <;> rfl) | (simp [*, iR, iQ] <;> rfl), by repeat (first | (with_reducible first | exact HB.out | apply iF | apply iD | apply iG | refine iE ?_ GE260.out | refine iE ?_ GE261.out) | exact HB.out)⟩
  · rw [if_neg c3] at H
    have c3b0 : (a0_0 == a1_0) = false := beq_eq_false_iff_ne.mpr c3
    have c3b1 : (a0_0 != a1_0) = true := bne_iff_ne.mpr c3
    obtain rfl := Option.some.inj H
    go_enter Try.func31, Try.ntmps31
    go_wp2_with (first | ((with_reducible refine jC (N := 2) rfl ?_); refine jA ?hg (N := 2) ?hd (cs := #[.int .u32 a0_0, .slice A0_1 l0_1.length c0_1]) (t := 42) ?hr ?_; (case hd => rfl); (case hg => rfl); (case hr => first | (go_simp; done) | (go_simp; rfl)); intro gb260 hg w10 hbox hb; have n0_ := iC.mk (iK hb_ hb); have n1_ := iC.mk (hbox); have n2_ := iC.mk ((by rw [hg]; exact (iJ hb_) : w.heap.size ≤ gb260)); have n3_ := iC.mk ((by rw [hg]; exact (iJ hb_) : w.heap.size ≤ gb260)); clear HB; have HB := n0_; have BK260 := n1_; have GW260 := n2_; have GE260 := n3_; clear n0_ n1_ n2_ n3_; clear hb hbox hg) | ((with_reducible refine jC (N := 3) rfl ?_); refine jA ?hg (N := 3) ?hd (cs := #[.int .u32 a1_0, .slice A1_1 l1_1.length c1_1]) (t := 42) ?hr ?_; (case hd => rfl); (case hg => rfl); (case hr => first | (go_simp; done) | (go_simp; rfl)); intro gb261 hg w11 hbox hb; have n0_ := iC.mk (iP (g := gb260) (o := .cells #[.int .u32 a0_0, .slice A0_1 l0_1.length c0_1] 42 (0, 0)) (bk_ BK260.out) hb); have n1_ := iC.mk (iK (by repeat (first | (with_reducible first | exact HB.out | apply iF | apply iD | apply iG | refine iE ?_ GE260.out) | exact HB.out)) hb); have n2_ := iC.mk (hbox); have n3_ := iC.mk ((by rw [hg]; exact (iJ (by repeat (first | (with_reducible first | exact HB.out | apply iF | apply iD | apply iG | refine iE ?_ GE260.out) | exact HB.out))) : w.heap.size ≤ gb261)); have n4_ := iC.mk ((by rw [hg]; exact (iJ (by repeat (first | (with_reducible first | exact HB.out | apply iF | apply iD | apply iG | refine iE ?_ GE260.out) | exact HB.out))) : w.heap.size ≤ gb261)); have n5_ := iC.mk ((by rw [hg]; exact Nat.ne_of_lt (jE (g := gb260) (o := .cells #[.int .u32 a0_0, .slice A0_1 l0_1.length c0_1] 42 (0, 0)) (bk_ BK260.out)) : gb260 ≠ gb261)); have n6_ := iC.mk ((by rw [hg]; exact Nat.ne_of_gt (jE (g := gb260) (o := .cells #[.int .u32 a0_0, .slice A0_1 l0_1.length c0_1] 42 (0, 0)) (bk_ BK260.out)) : gb261 ≠ gb260)); clear BK260; clear HB; have BK260 := n0_; have HB := n1_; have BK261 := n2_; have GW261 := n3_; have GE261 := n4_; have NB260_261 := n5_; have NB261_260 := n6_; clear n0_ n1_ n2_ n3_ n4_ n5_ n6_; clear hb hbox hg; have hnb12 := NB260_261.out; have hnc12 := NB261_260.out; have hcz13_0 : w11.cell? ⟨gb260, 0, none⟩ = some (.int .u32 a0_0) := (iI BK260.out 0).trans rfl; have hcz13_1 : w11.cell? ⟨gb260, 1, none⟩ = some (.slice A0_1 l0_1.length c0_1) := (iI BK260.out 1).trans rfl; have hfz13_0 := iH BK260.out 0; have hfz13_1 := iH BK260.out 1; have hcz14_0 : w11.cell? ⟨gb261, 0, none⟩ = some (.int .u32 a1_0) := (iI BK261.out 0).trans rfl; have hcz14_1 : w11.cell? ⟨gb261, 1, none⟩ = some (.slice A1_1 l1_1.length c1_1) := (iI BK261.out 1).trans rfl; have hfz14_0 := iH BK261.out 0; have hfz14_1 := iH BK261.out 1))
    go_ret
    exact ⟨by first | rfl | (simp [iR, iQ] <;> rfl) | (simp [*, iR, iQ] <;> rfl), by repeat (first | (with_reducible first | exact HB.out | apply iF | apply iD | apply iG | refine iE ?_ GE260.out | refine iE ?_ GE261.out) | exact HB.out)⟩
end Go.Proofs.Ytbpdejbkfpkphaa.K
end
