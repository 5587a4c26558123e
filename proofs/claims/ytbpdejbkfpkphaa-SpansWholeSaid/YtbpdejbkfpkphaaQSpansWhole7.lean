/- Parts of the proof, one behind the other: K40, SpX, SpZ, SpA, SpA2, SpO, K41. -/
import Derived.Test.YtbpdejbkfpkphaaQSpansWhole6
set_option linter.unusedVariables false
set_option linter.unusedSimpArgs false
section
namespace Go.Proofs.Ytbpdejbkfpkphaa.K
open Go.RowKit Go.Proofs.YtbpdejbkfpkphaaW.PrintWords Go.Proofs.YtbpdejbkfpkphaaW.PrintLast Go.Proofs.YtbpdejbkfpkphaaW.PrintMore
attribute [local go_sem] jU jT jZ jY jO jP jW jV
mutual
def stratumref12_Split.j0 : Nat → Int → Int → Int → Int → Bool → Int → List (S60) → Option (Int × (List (S60)) × Int)
  | 0, _, _, _, _, _, _, _ => none
  | k + 1, x1, x3, x4, x5, x51, x342000, x342001 => if x51 = true then (some (0, ([] : List (S60)), 120)) else (stratumref12_Split.l0 k x1 x3 x4 x5 false (-1) 0 x342000 x342001 ((x342000 + 1) % 4294967296) ([] : List (S60)))
def stratumref12_Split.l0 : Nat → Int → Int → Int → Int → Bool → Int → Int → Int → List (S60) → Int → List (S60) → Option (Int × (List (S60)) × Int)
  | 0, _, _, _, _, _, _, _, _, _, _, _ => none
  | k + 1, x1, x3, x4, x5, x14, x16, x17, x342000, x342001, x345000, x345001 => if x17 < x1 then ((stratumref12_Find.f k x342000 x342001 x17).bind fun t345 => (if x17 ≥ x3 then (stratumref12_Split.j2 k x1 x3 x4 x5 x14 x16 x17 t345 (decide (x17 < x4)) x342000 x342001 x345000 x345001) else (stratumref12_Split.j2 k x1 x3 x4 x5 x14 x16 x17 t345 false x342000 x342001 x345000 x345001))) else (if x14 = true then (if (x345001.length : Int) > 40 then (some (0, ([] : List (S60)), 3)) else (some (x345000, x345001, 0))) else (some (0, ([] : List (S60)), 120)))
def stratumref12_Split.j2 : Nat → Int → Int → Int → Int → Bool → Int → Int → Int → Bool → Int → List (S60) → Int → List (S60) → Option (Int × (List (S60)) × Int)
  | 0, _, _, _, _, _, _, _, _, _, _, _, _, _ => none
  | k + 1, x1, x3, x4, x5, x14, x16, x17, x18, x72, x342000, x342001, x345000, x345001 => if x72 = true then (if x14 = true then (if x5 = x16 then (stratumref12_Split.l0 k x1 x3 x4 x5 true x16 (wrap64 (x17 + 1)) x342000 x342001 x345000 x345001) else (if x345001.length < 8796093022208 then (stratumref12_Split.l0 k x1 x3 x4 x5 true x5 (wrap64 (x17 + 1)) x342000 x342001 x345000 (x345001 ++ [(⟨x17, x5⟩ : S60)])) else (none))) else (if x5 = x16 then (stratumref12_Split.l0 k x1 x3 x4 x5 (x18 != x5) x16 (wrap64 (x17 + 1)) x342000 x342001 x345000 x345001) else (if x345001.length < 8796093022208 then (stratumref12_Split.l0 k x1 x3 x4 x5 (x18 != x5) x5 (wrap64 (x17 + 1)) x342000 x342001 x345000 (x345001 ++ [(⟨x17, x5⟩ : S60)])) else (none)))) else (if x18 = x16 then (stratumref12_Split.l0 k x1 x3 x4 x5 x14 x16 (wrap64 (x17 + 1)) x342000 x342001 x345000 x345001) else (if x345001.length < 8796093022208 then (stratumref12_Split.l0 k x1 x3 x4 x5 x14 x18 (wrap64 (x17 + 1)) x342000 x342001 x345000 (x345001 ++ [(⟨x17, x18⟩ : S60)])) else (none)))
end
def stratumref12_Split.f (k : Nat) (a0_0 : Int) (l0_1 : List (S60)) (a1 : Int) (a2 : Int) (a3 : Int) (a4 : Int) (a5 : Int) : Option (Int × (List (S60)) × Int) := (stratumref12_Sound.f k a0_0 l0_1 a1 a2).bind fun t343 => (if t343 = true then (if a3 < 0 then (stratumref12_Split.j0 k a1 a3 a4 a5 true a0_0 l0_1) else (if a3 ≥ a4 then (stratumref12_Split.j0 k a1 a3 a4 a5 true a0_0 l0_1) else (if a4 > a1 then (stratumref12_Split.j0 k a1 a3 a4 a5 true a0_0 l0_1) else (if a5 < 0 then (stratumref12_Split.j0 k a1 a3 a4 a5 true a0_0 l0_1) else (if a5 ≥ (mn a2 6) then (stratumref12_Split.j0 k a1 a3 a4 a5 true a0_0 l0_1) else (stratumref12_Split.j0 k a1 a3 a4 a5 (decide (a1 > 10000)) a0_0 l0_1)))))) else (stratumref12_Split.j0 k a1 a3 a4 a5 true a0_0 l0_1))
theorem stratumref12_Split.mono_l : ∀ k, (∀ y0 y1 y2 y3 y4 y5 y6, LeO (stratumref12_Split.j0 k y0 y1 y2 y3 y4 y5 y6) (stratumref12_Split.j0 (k + 1) y0 y1 y2 y3 y4 y5 y6)) ∧ (∀ y0 y1 y2 y3 y4 y5 y6 y7 y8 y9 y10, LeO (stratumref12_Split.l0 k y0 y1 y2 y3 y4 y5 y6 y7 y8 y9 y10) (stratumref12_Split.l0 (k + 1) y0 y1 y2 y3 y4 y5 y6 y7 y8 y9 y10)) ∧ (∀ y0 y1 y2 y3 y4 y5 y6 y7 y8 y9 y10 y11 y12, LeO (stratumref12_Split.j2 k y0 y1 y2 y3 y4 y5 y6 y7 y8 y9 y10 y11 y12) (stratumref12_Split.j2 (k + 1) y0 y1 y2 y3 y4 y5 y6 y7 y8 y9 y10 y11 y12))
  | 0 => ⟨fun _ _ _ _ _ _ _ r h => by simp [stratumref12_Split.j0] at h, fun _ _ _ _ _ _ _ _ _ _ _ r h => by simp [stratumref12_Split.l0] at h, fun _ _ _ _ _ _ _ _ _ _ _ _ _ r h => by simp [stratumref12_Split.j2] at h⟩
  | k + 1 => by
    obtain ⟨ih0, ih1, ih2⟩ := stratumref12_Split.mono_l k
    refine ⟨?_, ?_, ?_⟩
    · intro y0 y1 y2 y3 y4 y5 y6
      unfold stratumref12_Split.j0
      repeat' first
      | (with_reducible exact ih0 _ _ _ _ _ _ _)
      | (with_reducible exact ih1 _ _ _ _ _ _ _ _ _ _ _)
      | (with_reducible exact ih2 _ _ _ _ _ _ _ _ _ _ _ _ _)
      | (with_reducible exact stratumref12_Find.mono _ _ _ _)
      | (with_reducible exact stratumref12_Sound.mono _ _ _ _ _)
      | (with_reducible exact LeO.refl _)
      | (with_reducible exact LeO.none _)
      | (with_reducible refine LeO.ite ?_ ?_)
      | (with_reducible refine LeO.bind ?_ (fun _ => ?_))
      | exact ih0 _ _ _ _ _ _ _
      | exact ih1 _ _ _ _ _ _ _ _ _ _ _
      | exact ih2 _ _ _ _ _ _ _ _ _ _ _ _ _
      | exact stratumref12_Find.mono _ _ _ _
      | exact stratumref12_Sound.mono _ _ _ _ _
      | exact LeO.none _
      | refine LeO.ite ?_ ?_
      | refine LeO.bind ?_ (fun _ => ?_)
    · intro y0 y1 y2 y3 y4 y5 y6 y7 y8 y9 y10
      unfold stratumref12_Split.l0
      repeat' first
      | (with_reducible exact ih0 _ _ _ _ _ _ _)
      | (with_reducible exact ih1 _ _ _ _ _ _ _ _ _ _ _)
      | (with_reducible exact ih2 _ _ _ _ _ _ _ _ _ _ _ _ _)
      | (with_reducible exact stratumref12_Find.mono _ _ _ _)
      | (with_reducible exact stratumref12_Sound.mono _ _ _ _ _)
      | (with_reducible exact LeO.refl _)
      | (with_reducible exact LeO.none _)
      | (with_reducible refine LeO.ite ?_ ?_)
      | (with_reducible refine LeO.bind ?_ (fun _ => ?_))
      | exact ih0 _ _ _ _ _ _ _
      | exact ih1 _ _ _ _ _ _ _ _ _ _ _
      | exact ih2 _ _ _ _ _ _ _ _ _ _ _ _ _
      | exact stratumref12_Find.mono _ _ _ _
      | exact stratumref12_Sound.mono _ _ _ _ _
      | exact LeO.none _
      | refine LeO.ite ?_ ?_
      | refine LeO.bind ?_ (fun _ => ?_)
    · intro y0 y1 y2 y3 y4 y5 y6 y7 y8 y9 y10 y11 y12
      unfold stratumref12_Split.j2
      repeat' first
      | (with_reducible exact ih0 _ _ _ _ _ _ _)
      | (with_reducible exact ih1 _ _ _ _ _ _ _ _ _ _ _)
      | (with_reducible exact ih2 _ _ _ _ _ _ _ _ _ _ _ _ _)
      | (with_reducible exact stratumref12_Find.mono _ _ _ _)
      | (with_reducible exact stratumref12_Sound.mono _ _ _ _ _)
      | (with_reducible exact LeO.refl _)
      | (with_reducible exact LeO.none _)
      | (with_reducible refine LeO.ite ?_ ?_)
      | (with_reducible refine LeO.bind ?_ (fun _ => ?_))
      | exact ih0 _ _ _ _ _ _ _
      | exact ih1 _ _ _ _ _ _ _ _ _ _ _
      | exact ih2 _ _ _ _ _ _ _ _ _ _ _ _ _
      | exact stratumref12_Find.mono _ _ _ _
      | exact stratumref12_Sound.mono _ _ _ _ _
      | exact LeO.none _
      | refine LeO.ite ?_ ?_
      | refine LeO.bind ?_ (fun _ => ?_)
theorem stratumref12_Split.mono : ∀ a0 a1 a2 a3 a4 a5 a6 k, LeO (stratumref12_Split.f k a0 a1 a2 a3 a4 a5 a6) (stratumref12_Split.f (k + 1) a0 a1 a2 a3 a4 a5 a6) := by
  intro a0 a1 a2 a3 a4 a5 a6 k
  obtain ⟨ih0, ih1, ih2⟩ := stratumref12_Split.mono_l k
  unfold stratumref12_Split.f
  repeat' first
      | (with_reducible exact ih0 _ _ _ _ _ _ _)
      | (with_reducible exact ih1 _ _ _ _ _ _ _ _ _ _ _)
      | (with_reducible exact ih2 _ _ _ _ _ _ _ _ _ _ _ _ _)
      | (with_reducible exact stratumref12_Find.mono _ _ _ _)
      | (with_reducible exact stratumref12_Sound.mono _ _ _ _ _)
      | (with_reducible exact LeO.refl _)
      | (with_reducible exact LeO.none _)
      | (with_reducible refine LeO.ite ?_ ?_)
      | (with_reducible refine LeO.bind ?_ (fun _ => ?_))
      | exact ih0 _ _ _ _ _ _ _
      | exact ih1 _ _ _ _ _ _ _ _ _ _ _
      | exact ih2 _ _ _ _ _ _ _ _ _ _ _ _ _
      | exact stratumref12_Find.mono _ _ _ _
      | exact stratumref12_Sound.mono _ _ _ _ _
      | exact LeO.none _
      | refine LeO.ite ?_ ?_
      | refine LeO.bind ?_ (fun _ => ?_)
set_option maxHeartbeats 8000000 in
set_option maxRecDepth 100000 in
theorem stratumref12_Split.calls (k : Nat) (a0_0 : Int) (A0_1 : Option Addr) (c0_1 : Nat) (l0_1 : List (S60)) (a1 : Int) (a2 : Int) (a3 : Int) (a4 : Int) (a5 : Int) (r1 : Int) (r2 : List (S60)) (r3 : Int) (w : World) (hr0_1 : Kd.C k60 w A0_1 l0_1.length l0_1) (hc0_1 : l0_1.length ≤ c0_1) (h : stratumref12_Split.f k a0_0 l0_1 a1 a2 a3 a4 a5 = some (r1, r2, r3)) :
    Calls Try.prog 43 #[.agg #[.int .u32 a0_0, .slice A0_1 l0_1.length c0_1], .int .i64 a1, .int .i64 a2, .int .i64 a3, .int .i64 a4, .int .i64 a5] w fun e w' => ∃ v1_ : Value, e = .returned (.tuple #[.agg #[.int .u32 r1, v1_], .int .i64 r3]) ∧ Kd.R k60 60 w' w.heap.size (fun _ => True) v1_ r2 ∧ Below w.heap.size w w' := by
  have hu42 := Try.underlying42
  have hu60 := Try.underlying60
  have HR0_1 := iC.mk hr0_1
  have HC0_1 := iC.mk hc0_1
  clear hr0_1 hc0_1
  have HB := iC.mk (Below.refl w.heap.size w)
  have H : ((stratumref12_Sound.f k a0_0 l0_1 a1 a2).bind fun t343 => (if t343 = true then (if a3 < 0 then (stratumref12_Split.j0 k a1 a3 a4 a5 true a0_0 l0_1) else (if a3 ≥ a4 then (stratumref12_Split.j0 k a1 a3 a4 a5 true a0_0 l0_1) else (if a4 > a1 then (stratumref12_Split.j0 k a1 a3 a4 a5 true a0_0 l0_1) else (if a5 < 0 then (stratumref12_Split.j0 k a1 a3 a4 a5 true a0_0 l0_1) else (if a5 ≥ (mn a2 6) then (stratumref12_Split.j0 k a1 a3 a4 a5 true a0_0 l0_1) else (stratumref12_Split.j0 k a1 a3 a4 a5 (decide (a1 > 10000)) a0_0 l0_1)))))) else (stratumref12_Split.j0 k a1 a3 a4 a5 true a0_0 l0_1))) = some (r1, r2, r3) := h
  clear h
  have HC7 := iC.mk H
  clear H
  go_enter Try.func43, Try.ntmps43
  go_upto_region 1 with (first | ((with_reducible refine jC (N := 6) rfl ?_); (try (refine iW (by rfl) ?_; dsimp only)); refine jA ?hg (N := 6) ?hd (cs := #[.int .u32 a0_0, .slice A0_1 l0_1.length c0_1]) (t := 42) ?hr ?_; (case hd => rfl); (case hg => rfl); (case hr => first | (go_simp; done) | (go_simp; rfl)); intro gb341 hg w8 hbox hb; have n0_ := iC.mk (iK hb_ hb); have n1_ := iC.mk (hbox); have n2_ := iC.mk ((by rw [hg]; exact (iJ hb_) : w.heap.size ≤ gb341)); have n3_ := iC.mk ((by rw [hg]; exact (iJ hb_) : w.heap.size ≤ gb341)); clear HB; have HB := n0_; have BK341 := n1_; have GW341 := n2_; have GE341 := n3_; clear n0_ n1_ n2_ n3_; clear hb hbox hg) | ((with_reducible refine jC (N := 12) rfl ?_); (try (refine iW (by rfl) ?_; dsimp only)); refine jA ?hg (N := 12) ?hd (cs := #[.int .u32 0, .slice none 0 0]) (t := 42) ?hr ?_; (case hd => rfl); (case hg => rfl); (case hr => first | (go_simp; done) | (go_simp; rfl)); intro gb342 hg w9 hbox hb; have n0_ := iC.mk (iP (g := gb341) (o := .cells #[.int .u32 a0_0, .slice A0_1 l0_1.length c0_1] 42 (0, 0)) (bk_ BK341.out) hb); have n1_ := iC.mk (iK (by repeat (first | (with_reducible first | exact HB.out | apply iF | apply iD | apply iG | refine iE ?_ GE341.out) | exact HB.out)) hb); have n2_ := iC.mk (hbox); have n3_ := iC.mk ((by rw [hg]; exact (iJ (by repeat (first | (with_reducible first | exact HB.out | apply iF | apply iD | apply iG | refine iE ?_ GE341.out) | exact HB.out))) : w.heap.size ≤ gb342)); have n4_ := iC.mk ((by rw [hg]; exact (iJ (by repeat (first | (with_reducible first | exact HB.out | apply iF | apply iD | apply iG | refine iE ?_ GE341.out) | exact HB.out))) : w.heap.size ≤ gb342)); have n5_ := iC.mk ((by rw [hg]; exact Nat.ne_of_lt (jE (g := gb341) (o := .cells #[.int .u32 a0_0, .slice A0_1 l0_1.length c0_1] 42 (0, 0)) (bk_ BK341.out)) : gb341 ≠ gb342)); have n6_ := iC.mk ((by rw [hg]; exact Nat.ne_of_gt (jE (g := gb341) (o := .cells #[.int .u32 a0_0, .slice A0_1 l0_1.length c0_1] 42 (0, 0)) (bk_ BK341.out)) : gb342 ≠ gb341)); clear BK341; clear HB; have BK341 := n0_; have HB := n1_; have BK342 := n2_; have GW342 := n3_; have GE342 := n4_; have NB341_342 := n5_; have NB342_341 := n6_; clear n0_ n1_ n2_ n3_ n4_ n5_ n6_; clear hb hbox hg))
  (try simp only [Act.put, List.setIfInBounds_toArray, List.set_cons_zero, List.set_cons_succ])
  go_cut [51] (fun v51 wc => ∃ (kq : Nat) (x51_6 : Bool), v51 = .bool x51_6 ∧ iC (stratumref12_Split.j0 kq a1 a3 a4 a5 x51_6 a0_0 l0_1 = some (r1, r2, r3)) ∧ iC (kq ≤ k) ∧ iC (wc.heap[gb341]? = some (.cells #[.int .u32 a0_0, (.slice A0_1 l0_1.length c0_1)] 42 (0, 0))) ∧ iC (wc.heap[gb342]? = some (.cells #[.int .u32 0, (.slice none 0 0)] 42 (0, 0))) ∧ iC (Below w.heap.size w wc))
  case first =>
    have H := HC7.out
    clear HC7
    replace H := Option.bind_eq_some_iff.mp H
    obtain ⟨t343, A100, H⟩ := H
    replace H : (if t343 = true then (if a3 < 0 then (stratumref12_Split.j0 k a1 a3 a4 a5 true a0_0 l0_1) else (if a3 ≥ a4 then (stratumref12_Split.j0 k a1 a3 a4 a5 true a0_0 l0_1) else (if a4 > a1 then (stratumref12_Split.j0 k a1 a3 a4 a5 true a0_0 l0_1) else (if a5 < 0 then (stratumref12_Split.j0 k a1 a3 a4 a5 true a0_0 l0_1) else (if a5 ≥ (mn a2 6) then (stratumref12_Split.j0 k a1 a3 a4 a5 true a0_0 l0_1) else (stratumref12_Split.j0 k a1 a3 a4 a5 (decide (a1 > 10000)) a0_0 l0_1)))))) else (stratumref12_Split.j0 k a1 a3 a4 a5 true a0_0 l0_1)) = some (r1, r2, r3) := H
    have A10 := iC.mk A100
    clear A100
    by_cases c11 : t343 = true
    · subst c11
      have H1 : (if a3 < 0 then (stratumref12_Split.j0 k a1 a3 a4 a5 true a0_0 l0_1) else (if a3 ≥ a4 then (stratumref12_Split.j0 k a1 a3 a4 a5 true a0_0 l0_1) else (if a4 > a1 then (stratumref12_Split.j0 k a1 a3 a4 a5 true a0_0 l0_1) else (if a5 < 0 then (stratumref12_Split.j0 k a1 a3 a4 a5 true a0_0 l0_1) else (if a5 ≥ (mn a2 6) then (stratumref12_Split.j0 k a1 a3 a4 a5 true a0_0 l0_1) else (stratumref12_Split.j0 k a1 a3 a4 a5 (decide (a1 > 10000)) a0_0 l0_1)))))) = some (r1, r2, r3) := by rw [if_pos rfl] at H; exact H
      clear H
      have H := H1
      clear H1
      by_cases c12 : a3 < 0
      · rw [if_pos c12] at H
        have c12b0 : decide (a3 < 0) = true := decide_eq_true c12
        clear c12
        (first | rw [c12b0] | (simp only [iY, iZ]; rw [c12b0]) | skip)
        have H' := iC.mk H
        clear H
        have hnb13 := NB341_342.out
        have hnc13 := NB342_341.out
        have hcz14_0 : w9.cell? ⟨gb341, 0, none⟩ = some (.int .u32 a0_0) := (iI BK341.out 0).trans rfl
        have hcz14_1 : w9.cell? ⟨gb341, 1, none⟩ = some (.slice A0_1 l0_1.length c0_1) := (iI BK341.out 1).trans rfl
        have hfz14_0 := iH BK341.out 0
        have hfz14_1 := iH BK341.out 1
        go_wp2_with (first | ((with_reducible refine iU (f := 34) rfl ?_); refine jJ (some 22) rfl rfl Try.func34 (by kernel_rfl) rfl #[.agg #[.int .u32 a0_0, .slice A0_1 l0_1.length c0_1], .int .i64 a1, .int .i64 a2] rfl (by (try simp only [List.map_toArray, List.map_cons, List.map_nil]); first | done | rfl | (simp only [List.length_drop, List.length_take]; rfl)) ?_; (with_reducible refine (stratumref12_Sound.calls k a0_0 _ _ l0_1 a1 a2 true _ ?side1 ?side2 A10.out).mono ?_); (case side1 => repeat (first | exact (Kd.C_below HR0_1.out HB.out) | (with_reducible refine Kd.C_alloc ?_ _) | (with_reducible refine Kd.C_drewN ?_ _) | (with_reducible refine Kd.C_drew ?_))); (case side2 => exact HC0_1.out); rintro e w15 ⟨rfl, hb⟩; refine ⟨_, rfl, ?_⟩; have n0_ := iC.mk (iP (g := gb341) (o := .cells #[.int .u32 a0_0, .slice A0_1 l0_1.length c0_1] 42 (0, 0)) (bk_ BK341.out) hb); have n1_ := iC.mk (iP (g := gb342) (o := .cells #[.int .u32 0, .slice none 0 0] 42 (0, 0)) (bk_ BK342.out) hb); have n2_ := iC.mk (iK (by repeat (first | (with_reducible first | exact HB.out | apply iF | apply iD | apply iG | refine iE ?_ GE341.out | refine iE ?_ GE342.out) | exact HB.out)) hb); clear BK341; clear BK342; clear HB; have BK341 := n0_; have BK342 := n1_; have HB := n2_; clear n0_ n1_ n2_; (try clear hb); (try clear hb2); (try clear hk); (try clear hi)))
        go_meet
        case rel => exact ⟨_, (true), (by first | rfl | (simp; done) | (simp [*]; done)), H', ⟨by first | omega | exact Nat.le_refl _⟩, ⟨bk_ BK341.out⟩, ⟨bk_ BK342.out⟩, ⟨by repeat (first | (with_reducible first | exact HB.out | apply iF | apply iD | apply iG | refine iE ?_ GE341.out | refine iE ?_ GE342.out) | exact HB.out)⟩⟩
      · rw [if_neg c12] at H
        have c12b0 : decide (a3 < 0) = false := decide_eq_false c12
        clear c12
        (first | rw [c12b0] | (simp only [iY, iZ]; rw [c12b0]) | skip)
        by_cases c16 : a3 ≥ a4
        · rw [if_pos c16] at H
          have c16b0 : decide (a4 ≤ a3) = true := decide_eq_true c16
          clear c16
          have H' := iC.mk H
          clear H
          have hnb17 := NB341_342.out
          have hnc17 := NB342_341.out
          have hcz18_0 : w9.cell? ⟨gb341, 0, none⟩ = some (.int .u32 a0_0) := (iI BK341.out 0).trans rfl
          have hcz18_1 : w9.cell? ⟨gb341, 1, none⟩ = some (.slice A0_1 l0_1.length c0_1) := (iI BK341.out 1).trans rfl
          have hfz18_0 := iH BK341.out 0
          have hfz18_1 := iH BK341.out 1
          go_wp2_with (first | ((with_reducible refine iU (f := 34) rfl ?_); refine jJ (some 22) rfl rfl Try.func34 (by kernel_rfl) rfl #[.agg #[.int .u32 a0_0, .slice A0_1 l0_1.length c0_1], .int .i64 a1, .int .i64 a2] rfl (by (try simp only [List.map_toArray, List.map_cons, List.map_nil]); first | done | rfl | (simp only [List.length_drop, List.length_take]; rfl)) ?_; (with_reducible refine (stratumref12_Sound.calls k a0_0 _ _ l0_1 a1 a2 true _ ?side1 ?side2 A10.out).mono ?_); (case side1 => repeat (first | exact (Kd.C_below HR0_1.out HB.out) | (with_reducible refine Kd.C_alloc ?_ _) | (with_reducible refine Kd.C_drewN ?_ _) | (with_reducible refine Kd.C_drew ?_))); (case side2 => exact HC0_1.out); rintro e w19 ⟨rfl, hb⟩; refine ⟨_, rfl, ?_⟩; have n0_ := iC.mk (iP (g := gb341) (o := .cells #[.int .u32 a0_0, .slice A0_1 l0_1.length c0_1] 42 (0, 0)) (bk_ BK341.out) hb); have n1_ := iC.mk (iP (g := gb342) (o := .cells #[.int .u32 0, .slice none 0 0] 42 (0, 0)) (bk_ BK342.out) hb); have n2_ := iC.mk (iK (by repeat (first | (with_reducible first | exact HB.out | apply iF | apply iD | apply iG | refine iE ?_ GE341.out | refine iE ?_ GE342.out) | exact HB.out)) hb); clear BK341; clear BK342; clear HB; have BK341 := n0_; have BK342 := n1_; have HB := n2_; clear n0_ n1_ n2_; (try clear hb); (try clear hb2); (try clear hk); (try clear hi)))
          go_meet
          case rel => exact ⟨_, (true), (by first | rfl | (simp; done) | (simp [*]; done)), H', ⟨by first | omega | exact Nat.le_refl _⟩, ⟨bk_ BK341.out⟩, ⟨bk_ BK342.out⟩, ⟨by repeat (first | (with_reducible first | exact HB.out | apply iF | apply iD | apply iG | refine iE ?_ GE341.out | refine iE ?_ GE342.out) | exact HB.out)⟩⟩
        · rw [if_neg c16] at H
          have c16b0 : decide (a4 ≤ a3) = false := decide_eq_false c16
          clear c16
          by_cases c20 : a4 > a1
          · rw [if_pos c20] at H
            have c20b0 : decide (a1 < a4) = true := decide_eq_true c20
            clear c20
            have H' := iC.mk H
            clear H
            have hnb21 := NB341_342.out
            have hnc21 := NB342_341.out
            have hcz22_0 : w9.cell? ⟨gb341, 0, none⟩ = some (.int .u32 a0_0) := (iI BK341.out 0).trans rfl
            have hcz22_1 : w9.cell? ⟨gb341, 1, none⟩ = some (.slice A0_1 l0_1.length c0_1) := (iI BK341.out 1).trans rfl
            have hfz22_0 := iH BK341.out 0
            have hfz22_1 := iH BK341.out 1
            go_wp2_with (first | ((with_reducible refine iU (f := 34) rfl ?_); refine jJ (some 22) rfl rfl Try.func34 (by kernel_rfl) rfl #[.agg #[.int .u32 a0_0, .slice A0_1 l0_1.length c0_1], .int .i64 a1, .int .i64 a2] rfl (by (try simp only [List.map_toArray, List.map_cons, List.map_nil]); first | done | rfl | (simp only [List.length_drop, List.length_take]; rfl)) ?_; (with_reducible refine (stratumref12_Sound.calls k a0_0 _ _ l0_1 a1 a2 true _ ?side1 ?side2 A10.out).mono ?_); (case side1 => repeat (first | exact (Kd.C_below HR0_1.out HB.out) | (with_reducible refine Kd.C_alloc ?_ _) | (with_reducible refine Kd.C_drewN ?_ _) | (with_reducible refine Kd.C_drew ?_))); (case side2 => exact HC0_1.out); rintro e w23 ⟨rfl, hb⟩; refine ⟨_, rfl, ?_⟩; have n0_ := iC.mk (iP (g := gb341) (o := .cells #[.int .u32 a0_0, .slice A0_1 l0_1.length c0_1] 42 (0, 0)) (bk_ BK341.out) hb); have n1_ := iC.mk (iP (g := gb342) (o := .cells #[.int .u32 0, .slice none 0 0] 42 (0, 0)) (bk_ BK342.out) hb); have n2_ := iC.mk (iK (by repeat (first | (with_reducible first | exact HB.out | apply iF | apply iD | apply iG | refine iE ?_ GE341.out | refine iE ?_ GE342.out) | exact HB.out)) hb); clear BK341; clear BK342; clear HB; have BK341 := n0_; have BK342 := n1_; have HB := n2_; clear n0_ n1_ n2_; (try clear hb); (try clear hb2); (try clear hk); (try clear hi)))
            go_meet
            case rel => exact ⟨_, (true), (by first | rfl | (simp; done) | (simp [*]; done)), H', ⟨by first | omega | exact Nat.le_refl _⟩, ⟨bk_ BK341.out⟩, ⟨bk_ BK342.out⟩, ⟨by repeat (first | (with_reducible first | exact HB.out | apply iF | apply iD | apply iG | refine iE ?_ GE341.out | refine iE ?_ GE342.out) | exact HB.out)⟩⟩
          · rw [if_neg c20] at H
            have c20b0 : decide (a1 < a4) = false := decide_eq_false c20
            clear c20
            by_cases c24 : a5 < 0
            · rw [if_pos c24] at H
              have c24b0 : decide (a5 < 0) = true := decide_eq_true c24
              clear c24
              have H' := iC.mk H
              clear H
              have hnb25 := NB341_342.out
              have hnc25 := NB342_341.out
              have hcz26_0 : w9.cell? ⟨gb341, 0, none⟩ = some (.int .u32 a0_0) := (iI BK341.out 0).trans rfl
              have hcz26_1 : w9.cell? ⟨gb341, 1, none⟩ = some (.slice A0_1 l0_1.length c0_1) := (iI BK341.out 1).trans rfl
              have hfz26_0 := iH BK341.out 0
              have hfz26_1 := iH BK341.out 1
              go_wp2_with (first | ((with_reducible refine iU (f := 34) rfl ?_); refine jJ (some 22) rfl rfl Try.func34 (by kernel_rfl) rfl #[.agg #[.int .u32 a0_0, .slice A0_1 l0_1.length c0_1], .int .i64 a1, .int .i64 a2] rfl (by (try simp only [List.map_toArray, List.map_cons, List.map_nil]); first | done | rfl | (simp only [List.length_drop, List.length_take]; rfl)) ?_; (with_reducible refine (stratumref12_Sound.calls k a0_0 _ _ l0_1 a1 a2 true _ ?side1 ?side2 A10.out).mono ?_); (case side1 => repeat (first | exact (Kd.C_below HR0_1.out HB.out) | (with_reducible refine Kd.C_alloc ?_ _) | (with_reducible refine Kd.C_drewN ?_ _) | (with_reducible refine Kd.C_drew ?_))); (case side2 => exact HC0_1.out); rintro e w27 ⟨rfl, hb⟩; refine ⟨_, rfl, ?_⟩; have n0_ := iC.mk (iP (g := gb341) (o := .cells #[.int .u32 a0_0, .slice A0_1 l0_1.length c0_1] 42 (0, 0)) (bk_ BK341.out) hb); have n1_ := iC.mk (iP (g := gb342) (o := .cells #[.int .u32 0, .slice none 0 0] 42 (0, 0)) (bk_ BK342.out) hb); have n2_ := iC.mk (iK (by repeat (first | (with_reducible first | exact HB.out | apply iF | apply iD | apply iG | refine iE ?_ GE341.out | refine iE ?_ GE342.out) | exact HB.out)) hb); clear BK341; clear BK342; clear HB; have BK341 := n0_; have BK342 := n1_; have HB := n2_; clear n0_ n1_ n2_; (try clear hb); (try clear hb2); (try clear hk); (try clear hi)))
              go_meet
              case rel => exact ⟨_, (true), (by first | rfl | (simp; done) | (simp [*]; done)), H', ⟨by first | omega | exact Nat.le_refl _⟩, ⟨bk_ BK341.out⟩, ⟨bk_ BK342.out⟩, ⟨by repeat (first | (with_reducible first | exact HB.out | apply iF | apply iD | apply iG | refine iE ?_ GE341.out | refine iE ?_ GE342.out) | exact HB.out)⟩⟩
            · rw [if_neg c24] at H
              have c24b0 : decide (a5 < 0) = false := decide_eq_false c24
              clear c24
              obtain ⟨ji28, hji28⟩ : ∃ j_ : Int, (mn a2 6) = j_ := ⟨_, rfl⟩
              replace H : (if a5 ≥ (ji28) then (stratumref12_Split.j0 k a1 a3 a4 a5 true a0_0 l0_1) else (stratumref12_Split.j0 k a1 a3 a4 a5 (decide (a1 > 10000)) a0_0 l0_1)) = some (r1, r2, r3) := by first | (rw [hji28] at H; exact H) | (simp only [hji28] at H ⊢; exact H)
              (try rw [hji28] at A10)
              (try (have hji28h : ji28 ≤ 6 := by (rw [← hji28]; unfold mn; (repeat' split) <;> omega)))
              (try (have hji28g : ji28 ≤ 64 := by omega))
              have hji28_ : (if 6 < a2 then 6 else a2) = ji28 := hji28
              by_cases c29 : a5 ≥ (ji28)
              · rw [if_pos c29] at H
                have c29b0 : decide ((ji28) ≤ a5) = true := decide_eq_true c29
                clear c29
                have H' := iC.mk H
                clear H
                have hnb30 := NB341_342.out
                have hnc30 := NB342_341.out
                have hcz31_0 : w9.cell? ⟨gb341, 0, none⟩ = some (.int .u32 a0_0) := (iI BK341.out 0).trans rfl
                have hcz31_1 : w9.cell? ⟨gb341, 1, none⟩ = some (.slice A0_1 l0_1.length c0_1) := (iI BK341.out 1).trans rfl
                have hfz31_0 := iH BK341.out 0
                have hfz31_1 := iH BK341.out 1
                go_wp2_with (first | ((with_reducible refine iU (f := 34) rfl ?_); refine jJ (some 22) rfl rfl Try.func34 (by kernel_rfl) rfl #[.agg #[.int .u32 a0_0, .slice A0_1 l0_1.length c0_1], .int .i64 a1, .int .i64 a2] rfl (by (try simp only [List.map_toArray, List.map_cons, List.map_nil]); first | done | rfl | (simp only [List.length_drop, List.length_take]; rfl)) ?_; (with_reducible refine (stratumref12_Sound.calls k a0_0 _ _ l0_1 a1 a2 true _ ?side1 ?side2 A10.out).mono ?_); (case side1 => repeat (first | exact (Kd.C_below HR0_1.out HB.out) | (with_reducible refine Kd.C_alloc ?_ _) | (with_reducible refine Kd.C_drewN ?_ _) | (with_reducible refine Kd.C_drew ?_))); (case side2 => exact HC0_1.out); rintro e w32 ⟨rfl, hb⟩; refine ⟨_, rfl, ?_⟩; have n0_ := iC.mk (iP (g := gb341) (o := .cells #[.int .u32 a0_0, .slice A0_1 l0_1.length c0_1] 42 (0, 0)) (bk_ BK341.out) hb); have n1_ := iC.mk (iP (g := gb342) (o := .cells #[.int .u32 0, .slice none 0 0] 42 (0, 0)) (bk_ BK342.out) hb); have n2_ := iC.mk (iK (by repeat (first | (with_reducible first | exact HB.out | apply iF | apply iD | apply iG | refine iE ?_ GE341.out | refine iE ?_ GE342.out) | exact HB.out)) hb); clear BK341; clear BK342; clear HB; have BK341 := n0_; have BK342 := n1_; have HB := n2_; clear n0_ n1_ n2_; (try clear hb); (try clear hb2); (try clear hk); (try clear hi)))
                go_meet
                case rel => exact ⟨_, (true), (by first | rfl | (simp; done) | (simp [*]; done)), H', ⟨by first | omega | exact Nat.le_refl _⟩, ⟨bk_ BK341.out⟩, ⟨bk_ BK342.out⟩, ⟨by repeat (first | (with_reducible first | exact HB.out | apply iF | apply iD | apply iG | refine iE ?_ GE341.out | refine iE ?_ GE342.out) | exact HB.out)⟩⟩
              · rw [if_neg c29] at H
                have c29b0 : decide ((ji28) ≤ a5) = false := decide_eq_false c29
                clear c29
                have H' := iC.mk H
                clear H
                have hnb33 := NB341_342.out
                have hnc33 := NB342_341.out
                have hcz34_0 : w9.cell? ⟨gb341, 0, none⟩ = some (.int .u32 a0_0) := (iI BK341.out 0).trans rfl
                have hcz34_1 : w9.cell? ⟨gb341, 1, none⟩ = some (.slice A0_1 l0_1.length c0_1) := (iI BK341.out 1).trans rfl
                have hfz34_0 := iH BK341.out 0
                have hfz34_1 := iH BK341.out 1
                go_wp2_with (first | ((with_reducible refine iU (f := 34) rfl ?_); refine jJ (some 22) rfl rfl Try.func34 (by kernel_rfl) rfl #[.agg #[.int .u32 a0_0, .slice A0_1 l0_1.length c0_1], .int .i64 a1, .int .i64 a2] rfl (by (try simp only [List.map_toArray, List.map_cons, List.map_nil]); first | done | rfl | (simp only [List.length_drop, List.length_take]; rfl)) ?_; (with_reducible refine (stratumref12_Sound.calls k a0_0 _ _ l0_1 a1 a2 true _ ?side1 ?side2 A10.out).mono ?_); (case side1 => repeat (first | exact (Kd.C_below HR0_1.out HB.out) | (with_reducible refine Kd.C_alloc ?_ _) | (with_reducible refine Kd.C_drewN ?_ _) | (with_reducible refine Kd.C_drew ?_))); (case side2 => exact HC0_1.out); rintro e w35 ⟨rfl, hb⟩; refine ⟨_, rfl, ?_⟩; have n0_ := iC.mk (iP (g := gb341) (o := .cells #[.int .u32 a0_0, .slice A0_1 l0_1.length c0_1] 42 (0, 0)) (bk_ BK341.out) hb); have n1_ := iC.mk (iP (g := gb342) (o := .cells #[.int .u32 0, .slice none 0 0] 42 (0, 0)) (bk_ BK342.out) hb); have n2_ := iC.mk (iK (by repeat (first | (with_reducible first | exact HB.out | apply iF | apply iD | apply iG | refine iE ?_ GE341.out | refine iE ?_ GE342.out) | exact HB.out)) hb); clear BK341; clear BK342; clear HB; have BK341 := n0_; have BK342 := n1_; have HB := n2_; clear n0_ n1_ n2_; (try clear hb); (try clear hb2); (try clear hk); (try clear hi)))
                go_meet
                case rel => exact ⟨_, (decide (a1 > 10000)), (by first | rfl | (simp; done) | (simp [*]; done)), H', ⟨by first | omega | exact Nat.le_refl _⟩, ⟨bk_ BK341.out⟩, ⟨bk_ BK342.out⟩, ⟨by repeat (first | (with_reducible first | exact HB.out | apply iF | apply iD | apply iG | refine iE ?_ GE341.out | refine iE ?_ GE342.out) | exact HB.out)⟩⟩
    · replace c11 := Bool.eq_false_iff.mpr c11
      subst c11
      have H1 : (stratumref12_Split.j0 k a1 a3 a4 a5 true a0_0 l0_1) = some (r1, r2, r3) := by rw [if_neg (show ¬ (false = true) by decide)] at H; exact H
      clear H
      have H := H1
      clear H1
      have H' := iC.mk H
      clear H
      have hnb36 := NB341_342.out
      have hnc36 := NB342_341.out
      have hcz37_0 : w9.cell? ⟨gb341, 0, none⟩ = some (.int .u32 a0_0) := (iI BK341.out 0).trans rfl
      have hcz37_1 : w9.cell? ⟨gb341, 1, none⟩ = some (.slice A0_1 l0_1.length c0_1) := (iI BK341.out 1).trans rfl
      have hfz37_0 := iH BK341.out 0
      have hfz37_1 := iH BK341.out 1
      go_wp2_with (first | ((with_reducible refine iU (f := 34) rfl ?_); refine jJ (some 22) rfl rfl Try.func34 (by kernel_rfl) rfl #[.agg #[.int .u32 a0_0, .slice A0_1 l0_1.length c0_1], .int .i64 a1, .int .i64 a2] rfl (by (try simp only [List.map_toArray, List.map_cons, List.map_nil]); first | done | rfl | (simp only [List.length_drop, List.length_take]; rfl)) ?_; (with_reducible refine (stratumref12_Sound.calls k a0_0 _ _ l0_1 a1 a2 false _ ?side1 ?side2 A10.out).mono ?_); (case side1 => repeat (first | exact (Kd.C_below HR0_1.out HB.out) | (with_reducible refine Kd.C_alloc ?_ _) | (with_reducible refine Kd.C_drewN ?_ _) | (with_reducible refine Kd.C_drew ?_))); (case side2 => exact HC0_1.out); rintro e w38 ⟨rfl, hb⟩; refine ⟨_, rfl, ?_⟩; have n0_ := iC.mk (iP (g := gb341) (o := .cells #[.int .u32 a0_0, .slice A0_1 l0_1.length c0_1] 42 (0, 0)) (bk_ BK341.out) hb); have n1_ := iC.mk (iP (g := gb342) (o := .cells #[.int .u32 0, .slice none 0 0] 42 (0, 0)) (bk_ BK342.out) hb); have n2_ := iC.mk (iK (by repeat (first | (with_reducible first | exact HB.out | apply iF | apply iD | apply iG | refine iE ?_ GE341.out | refine iE ?_ GE342.out) | exact HB.out)) hb); clear BK341; clear BK342; clear HB; have BK341 := n0_; have BK342 := n1_; have HB := n2_; clear n0_ n1_ n2_; (try clear hb); (try clear hb2); (try clear hk); (try clear hi)))
      go_meet
      case rel => exact ⟨_, (true), (by first | rfl | (simp; done) | (simp [*]; done)), H', ⟨by first | omega | exact Nat.le_refl _⟩, ⟨bk_ BK341.out⟩, ⟨bk_ BK342.out⟩, ⟨by repeat (first | (with_reducible first | exact HB.out | apply iF | apply iD | apply iG | refine iE ?_ GE341.out | refine iE ?_ GE342.out) | exact HB.out)⟩⟩
  case rest =>
    clear HC7
    try clear c1
    try clear c2
    try clear p2
    try clear c3
    try clear c4
    try clear c11
    try clear c12
    try clear c12b0
    try clear c13
    try clear c16
    try clear c16b0
    try clear c17
    try clear c20
    try clear c20b0
    try clear c21
    try clear c24
    try clear c24b0
    try clear c25
    try clear c29
    try clear c29b0
    try clear c30
    try clear c33
    try clear c34
    try clear c36
    try clear hcz14_0
    try clear hcz14_1
    try clear hcz18_0
    try clear hcz18_1
    try clear hcz22_0
    try clear hcz22_1
    try clear hcz26_0
    try clear hcz26_1
    try clear hcz31_0
    try clear hcz31_1
    try clear hcz34_0
    try clear hcz34_1
    try clear hcz37_0
    try clear hcz37_1
    try clear hfz14_0
    try clear hfz14_1
    try clear hfz18_0
    try clear hfz18_1
    try clear hfz22_0
    try clear hfz22_1
    try clear hfz26_0
    try clear hfz26_1
    try clear hfz31_0
    try clear hfz31_1
    try clear hfz34_0
    try clear hfz34_1
    try clear hfz37_0
    try clear hfz37_1
    obtain ⟨kq, x51_6, rfl, HA, HJ6, BK341, BK342, HB⟩ := hcut
    cases kq with
    | zero => exact absurd HA.out (by simp [stratumref12_Split.j0])
    | succ kj6 =>
      have H := HA.out
      clear HA
      simp only [stratumref12_Split.j0] at H
      by_cases c39 : x51_6 = true
      · subst c39
        have H1 : (some (0, ([] : List (S60)), 120)) = some (r1, r2, r3) := by rw [if_pos rfl] at H; exact H
        clear H
        have H := H1
        clear H1
        simp only [Option.some.injEq, Prod.mk.injEq] at H
        obtain ⟨rfl, rfl, rfl⟩ := H
        have hnb40 := NB342_341.out
        have hnc40 := NB341_342.out
        have hcz41_0 : wc.cell? ⟨gb342, 0, none⟩ = some (.int .u32 0) := (iI BK342.out 0).trans rfl
        have hcz41_1 : wc.cell? ⟨gb342, 1, none⟩ = some (.slice none 0 0) := (iI BK342.out 1).trans rfl
        have hfz41_0 := iH BK342.out 0
        have hfz41_1 := iH BK342.out 1
        go_wp2
        refine bodyPost_ret (kM rfl _ _ gb342 42 #[.int .u32 0, .slice none 0 0] (0, 0) _ rfl (by (with_reducible repeat (first | refine iM ?_ _ | refine iO ?_ | refine iL ?_ _)); refine jD (cs := #[.int .u32 0, .slice none 0 0]) ?_ 1 _ rfl; (with_reducible repeat (first | refine iM ?_ _ | refine iO ?_ | refine iL ?_ _)); refine jD (cs := #[.int .u32 0, .slice none 0 0]) ?_ 0 _ rfl; (with_reducible repeat (first | refine iM ?_ _ | refine iO ?_ | refine iL ?_ _)); exact BK342.out) Try.underlying42 rfl (by kernel_rfl)) rfl ?_
        exact ⟨_, by first | rfl | (simp [iR, iQ] <;> rfl) | (simp [*, iR, iQ] <;> rfl), by first | exact Kd.R_nil _ _ _ _ _ | exact Kd.N_nil _ _ _ _ _ | exact Kd.V_nil _ _ _ _ _ | exact Kd.Q_nil _ _ _ _ _ | exact Kd.S_nil _ _ _ _ _, by repeat (first | (with_reducible first | exact HB.out | apply iF | apply iD | apply iG | refine iE ?_ GE341.out | refine iE ?_ GE342.out) | exact HB.out)⟩
      · replace c39 := Bool.eq_false_iff.mpr c39
        subst c39
        have H1 : (stratumref12_Split.l0 kj6 a1 a3 a4 a5 false (-1) 0 a0_0 l0_1 ((a0_0 + 1) % 4294967296) ([] : List (S60))) = some (r1, r2, r3) := by rw [if_neg (show ¬ (false = true) by decide)] at H; exact H
        clear H
        have H := H1
        clear H1
        have H' := iC.mk H
        clear H
        have hnb42 := NB341_342.out
        have hnc42 := NB342_341.out
        have hcz43_0 : wc.cell? ⟨gb341, 0, none⟩ = some (.int .u32 a0_0) := (iI BK341.out 0).trans rfl
        have hcz43_1 : wc.cell? ⟨gb341, 1, none⟩ = some (.slice A0_1 l0_1.length c0_1) := (iI BK341.out 1).trans rfl
        have hfz43_0 := iH BK341.out 0
        have hfz43_1 := iH BK341.out 1
        go_wp2_with (first | ((with_reducible refine jC (N := 15) rfl ?_); (try (refine iW (by rfl) ?_; dsimp only)); refine jA ?hg (N := 15) ?hd (cs := #[.int .u32 0, .slice none 0 0]) (t := 42) ?hr ?_; (case hd => rfl); (case hg => rfl); (case hr => first | (go_simp; done) | (go_simp; rfl)); intro gb344 hg w44 hbox hb; have n0_ := iC.mk (iP (g := gb341) (o := .cells #[.int .u32 a0_0, .slice A0_1 l0_1.length c0_1] 42 (0, 0)) (bk_ BK341.out) hb); have n1_ := iC.mk (iP (g := gb342) (o := .cells #[.int .u32 0, .slice none 0 0] 42 (0, 0)) (bk_ BK342.out) hb); have n2_ := iC.mk (iK (by repeat (first | (with_reducible first | exact HB.out | apply iF | apply iD | apply iG | refine iE ?_ GE341.out | refine iE ?_ GE342.out) | exact HB.out)) hb); have n3_ := iC.mk (hbox); have n4_ := iC.mk ((by rw [hg]; exact (iJ (by repeat (first | (with_reducible first | exact HB.out | apply iF | apply iD | apply iG | refine iE ?_ GE341.out | refine iE ?_ GE342.out) | exact HB.out))) : w.heap.size ≤ gb344)); have n5_ := iC.mk ((by rw [hg]; exact (iJ (by repeat (first | (with_reducible first | exact HB.out | apply iF | apply iD | apply iG | refine iE ?_ GE341.out | refine iE ?_ GE342.out) | exact HB.out))) : w.heap.size ≤ gb344)); have n6_ := iC.mk ((by rw [hg]; exact Nat.ne_of_lt (jE (g := gb341) (o := .cells #[.int .u32 a0_0, .slice A0_1 l0_1.length c0_1] 42 (0, 0)) (bk_ BK341.out)) : gb341 ≠ gb344)); have n7_ := iC.mk ((by rw [hg]; exact Nat.ne_of_gt (jE (g := gb341) (o := .cells #[.int .u32 a0_0, .slice A0_1 l0_1.length c0_1] 42 (0, 0)) (bk_ BK341.out)) : gb344 ≠ gb341)); have n8_ := iC.mk ((by rw [hg]; exact Nat.ne_of_lt (jE (g := gb342) (o := .cells #[.int .u32 0, .slice none 0 0] 42 (0, 0)) (bk_ BK342.out)) : gb342 ≠ gb344)); have n9_ := iC.mk ((by rw [hg]; exact Nat.ne_of_gt (jE (g := gb342) (o := .cells #[.int .u32 0, .slice none 0 0] 42 (0, 0)) (bk_ BK342.out)) : gb344 ≠ gb342)); clear BK341; clear BK342; clear HB; have BK341 := n0_; have BK342 := n1_; have HB := n2_; have BK344 := n3_; have GW344 := n4_; have GE344 := n5_; have NB341_344 := n6_; have NB344_341 := n7_; have NB342_344 := n8_; have NB344_342 := n9_; clear n0_ n1_ n2_ n3_ n4_ n5_ n6_ n7_ n8_ n9_; clear hb hbox hg; have hnb45 := NB344_341.out; have hnc45 := NB341_344.out; have hnb46 := NB344_342.out; have hnc46 := NB342_344.out; have hcz47_0 : w44.cell? ⟨gb344, 0, none⟩ = some (.int .u32 0) := (iI BK344.out 0).trans rfl; have hcz47_1 : w44.cell? ⟨gb344, 1, none⟩ = some (.slice none 0 0) := (iI BK344.out 1).trans rfl; have hfz47_0 := iH BK344.out 0; have hfz47_1 := iH BK344.out 1))
        go_loopg [14, 16, 17] kj6 (fun kq v14 v16 v17 w' => ∃ (x14_2 : Bool) (x16_2 : Int) (x17_2 : Int) (x345001_2 : List (S60)) (u345001 : Value), v14 = .bool x14_2 ∧ v16 = .int .i64 x16_2 ∧ v17 = .int .i64 x17_2 ∧ iC (stratumref12_Split.l0 kq a1 a3 a4 a5 x14_2 x16_2 x17_2 a0_0 l0_1 ((a0_0 + 1) % 4294967296) x345001_2 = some (r1, r2, r3)) ∧ iC (kq ≤ kj6) ∧ iC (Kd.R k60 60 w' w.heap.size (fun _ => True) u345001 x345001_2) ∧ iC (w'.heap[gb341]? = some (.cells #[.int .u32 a0_0, (.slice A0_1 l0_1.length c0_1)] 42 (0, 0))) ∧ iC (w'.heap[gb342]? = some (.cells #[.int .u32 0, (.slice none 0 0)] 42 (0, 0))) ∧ iC (w'.heap[gb344]? = some (.cells #[.int .u32 ((a0_0 + 1) % 4294967296), u345001] 42 (0, 0))) ∧ iC (Below w.heap.size w w'))
        case atStart => exact ⟨(false), ((-1)), (0), (([] : List (S60))), (.slice none 0 0), (by first | rfl | (simp; done) | (simp [*]; done)), (by first | rfl | (simp; done) | (simp [*]; done)), (by first | rfl | (simp; done) | (simp [*]; done)), H', ⟨Nat.le_refl _⟩, ⟨by first | exact Kd.R_nil _ _ _ _ _ | exact Kd.N_nil _ _ _ _ _ | exact Kd.V_nil _ _ _ _ _ | exact Kd.Q_nil _ _ _ _ _ | exact Kd.S_nil _ _ _ _ _⟩, ⟨by (with_reducible repeat (first | refine iM ?_ _ | refine iO ?_ | refine iL ?_ _)); refine jH ?_ NB341_344.out _; (with_reducible repeat (first | refine iM ?_ _ | refine iO ?_ | refine iL ?_ _)); refine jH ?_ NB341_344.out _; (with_reducible repeat (first | refine iM ?_ _ | refine iO ?_ | refine iL ?_ _)); exact BK341.out⟩, ⟨by (with_reducible repeat (first | refine iM ?_ _ | refine iO ?_ | refine iL ?_ _)); refine jH ?_ NB342_344.out _; (with_reducible repeat (first | refine iM ?_ _ | refine iO ?_ | refine iL ?_ _)); refine jH ?_ NB342_344.out _; (with_reducible repeat (first | refine iM ?_ _ | refine iO ?_ | refine iL ?_ _)); exact BK342.out⟩, ⟨by (with_reducible repeat (first | refine iM ?_ _ | refine iO ?_ | refine iL ?_ _)); refine jD (cs := #[.int .u32 ((a0_0 + 1) % 4294967296), .slice none 0 0]) ?_ 1 _ rfl; (with_reducible repeat (first | refine iM ?_ _ | refine iO ?_ | refine iL ?_ _)); refine jD (cs := #[.int .u32 0, .slice none 0 0]) ?_ 0 _ rfl; (with_reducible repeat (first | refine iM ?_ _ | refine iO ?_ | refine iL ?_ _)); exact BK344.out⟩, ⟨by repeat (first | (with_reducible first | exact HB.out | apply iF | apply iD | apply iG | refine iE ?_ GE341.out | refine iE ?_ GE342.out | refine iE ?_ GE344.out) | exact HB.out)⟩⟩
        case round =>
          clear H'
          try clear c1
          try clear c2
          try clear p2
          try clear c3
          try clear c4
          try clear c11
          try clear c12
          try clear c12b0
          try clear c13
          try clear c16
          try clear c16b0
          try clear c17
          try clear c20
          try clear c20b0
          try clear c21
          try clear c24
          try clear c24b0
          try clear c25
          try clear c29
          try clear c29b0
          try clear c30
          try clear c33
          try clear c34
          try clear c36
          try clear c39
          try clear c40
          try clear c42
          try clear c43
          try clear c45
          try clear c46
          try clear hcz14_0
          try clear hcz14_1
          try clear hcz18_0
          try clear hcz18_1
          try clear hcz22_0
          try clear hcz22_1
          try clear hcz26_0
          try clear hcz26_1
          try clear hcz31_0
          try clear hcz31_1
          try clear hcz34_0
          try clear hcz34_1
          try clear hcz37_0
          try clear hcz37_1
          try clear hcz41_0
          try clear hcz41_1
          try clear hcz43_0
          try clear hcz43_1
          try clear hcz47_0
          try clear hcz47_1
          try clear hfz14_0
          try clear hfz14_1
          try clear hfz18_0
          try clear hfz18_1
          try clear hfz22_0
          try clear hfz22_1
          try clear hfz26_0
          try clear hfz26_1
          try clear hfz31_0
          try clear hfz31_1
          try clear hfz34_0
          try clear hfz34_1
          try clear hfz37_0
          try clear hfz37_1
          try clear hfz41_0
          try clear hfz41_1
          try clear hfz43_0
          try clear hfz43_1
          try clear hfz47_0
          try clear hfz47_1
          try clear p2
          obtain ⟨x14_2, x16_2, x17_2, x345001_2, u345001, rfl, rfl, rfl, HA, HK2, HO_345001, BK341, BK342, BK344, HB⟩ := hrel
          cases gk with
          | zero => exact absurd HA.out (by simp [stratumref12_Split.l0])
          | succ k2 =>
            have H := HA.out
            clear HA
            simp only [stratumref12_Split.l0] at H
            by_cases c48 : x17_2 < a1
            · rw [if_pos c48] at H
              have c48b0 : decide (x17_2 < a1) = true := decide_eq_true c48
              clear c48
              replace H := Option.bind_eq_some_iff.mp H
              obtain ⟨t345, A490, H⟩ := H
              replace H : (if x17_2 ≥ a3 then (stratumref12_Split.j2 k2 a1 a3 a4 a5 x14_2 x16_2 x17_2 t345 (decide (x17_2 < a4)) a0_0 l0_1 ((a0_0 + 1) % 4294967296) x345001_2) else (stratumref12_Split.j2 k2 a1 a3 a4 a5 x14_2 x16_2 x17_2 t345 false a0_0 l0_1 ((a0_0 + 1) % 4294967296) x345001_2)) = some (r1, r2, r3) := H
              have A49 := iC.mk A490
              clear A490
              have HC50 := iC.mk H
              clear H
              have hnb51 := NB341_342.out
              have hnc51 := NB342_341.out
              have hnb52 := NB341_344.out
              have hnc52 := NB344_341.out
              have hcz53_0 : wr.cell? ⟨gb341, 0, none⟩ = some (.int .u32 a0_0) := (iI BK341.out 0).trans rfl
              have hcz53_1 : wr.cell? ⟨gb341, 1, none⟩ = some (.slice A0_1 l0_1.length c0_1) := (iI BK341.out 1).trans rfl
              have hfz53_0 := iH BK341.out 0
              have hfz53_1 := iH BK341.out 1
              go_upto_region 10 with (first | ((with_reducible refine iU (f := 36) rfl ?_); refine jJ (some 64) rfl rfl Try.func36 (by kernel_rfl) rfl #[.agg #[.int .u32 a0_0, .slice A0_1 l0_1.length c0_1], .int .i64 x17_2] rfl (by (try simp only [List.map_toArray, List.map_cons, List.map_nil]); first | done | rfl | (simp only [List.length_drop, List.length_take]; rfl)) ?_; (with_reducible refine (stratumref12_Find.calls k2 a0_0 _ _ l0_1 x17_2 t345 _ ?side1 ?side2 A49.out).mono ?_); (case side1 => repeat (first | exact (Kd.C_below HR0_1.out HB.out) | (with_reducible refine Kd.C_alloc ?_ _) | (with_reducible refine Kd.C_drewN ?_ _) | (with_reducible refine Kd.C_drew ?_))); (case side2 => exact HC0_1.out); rintro e w54 ⟨rfl, hb⟩; refine ⟨_, rfl, ?_⟩; have n0_ := iC.mk (Kd.R_below (by (with_reducible repeat (first | apply Kd.R_alloc | apply Kd.R_drewN | apply Kd.R_drew)); exact HO_345001.out) hb); have n1_ := iC.mk (iP (g := gb341) (o := .cells #[.int .u32 a0_0, .slice A0_1 l0_1.length c0_1] 42 (0, 0)) (bk_ BK341.out) hb); have n2_ := iC.mk (iP (g := gb342) (o := .cells #[.int .u32 0, .slice none 0 0] 42 (0, 0)) (bk_ BK342.out) hb); have n3_ := iC.mk (iP (g := gb344) (o := .cells #[.int .u32 ((a0_0 + 1) % 4294967296), u345001] 42 (0, 0)) (bk_ BK344.out) hb); have n4_ := iC.mk (iK (by repeat (first | (with_reducible first | exact HB.out | apply iF | apply iD | apply iG | refine iE ?_ GE341.out | refine iE ?_ GE342.out | refine iE ?_ GE344.out) | exact HB.out)) hb); clear HO_345001; clear BK341; clear BK342; clear BK344; clear HB; have HO_345001 := n0_; have BK341 := n1_; have BK342 := n2_; have BK344 := n3_; have HB := n4_; clear n0_ n1_ n2_ n3_ n4_; (try clear hb); (try clear hb2); (try clear hk); (try clear hi)))
              (try simp only [Act.put, List.setIfInBounds_toArray, List.set_cons_zero, List.set_cons_succ])
              go_cut [72] (fun v72 wc => ∃ (kq : Nat) (x72_49 : Bool), v72 = .bool x72_49 ∧ iC (stratumref12_Split.j2 kq a1 a3 a4 a5 x14_2 x16_2 x17_2 t345 x72_49 a0_0 l0_1 ((a0_0 + 1) % 4294967296) x345001_2 = some (r1, r2, r3)) ∧ iC (kq ≤ k2) ∧ iC (Kd.R k60 60 wc w.heap.size (fun _ => True) u345001 x345001_2) ∧ iC (wc.heap[gb341]? = some (.cells #[.int .u32 a0_0, (.slice A0_1 l0_1.length c0_1)] 42 (0, 0))) ∧ iC (wc.heap[gb342]? = some (.cells #[.int .u32 0, (.slice none 0 0)] 42 (0, 0))) ∧ iC (wc.heap[gb344]? = some (.cells #[.int .u32 ((a0_0 + 1) % 4294967296), u345001] 42 (0, 0))) ∧ iC (Below w.heap.size w wc))
              case first =>
                have H := HC50.out
                clear HC50
                by_cases c55 : x17_2 ≥ a3
                · rw [if_pos c55] at H
                  have c55b0 : decide (a3 ≤ x17_2) = true := decide_eq_true c55
                  clear c55
                  (first | rw [c55b0] | (simp only [iY, iZ]; rw [c55b0]) | skip)
                  have H' := iC.mk H
                  clear H
                  go_wp2
                  go_meet
                  case rel => exact ⟨_, (decide (x17_2 < a4)), (by first | rfl | (simp; done) | (simp [*]; done)), H', ⟨by have := HJ6.out; have := HK2.out; first | omega | exact Nat.le_refl _⟩, ⟨by (with_reducible repeat (first | apply Kd.R_alloc | apply Kd.R_drewN | apply Kd.R_drew)); exact HO_345001.out⟩, ⟨bk_ BK341.out⟩, ⟨bk_ BK342.out⟩, ⟨bk_ BK344.out⟩, ⟨by repeat (first | (with_reducible first | exact HB.out | apply iF | apply iD | apply iG | refine iE ?_ GE341.out | refine iE ?_ GE342.out | refine iE ?_ GE344.out) | exact HB.out)⟩⟩
                · rw [if_neg c55] at H
                  have c55b0 : decide (a3 ≤ x17_2) = false := decide_eq_false c55
                  clear c55
                  (first | rw [c55b0] | (simp only [iY, iZ]; rw [c55b0]) | skip)
                  have H' := iC.mk H
                  clear H
                  go_wp2
                  go_meet
                  case rel => exact ⟨_, (false), (by first | rfl | (simp; done) | (simp [*]; done)), H', ⟨by have := HJ6.out; have := HK2.out; first | omega | exact Nat.le_refl _⟩, ⟨by (with_reducible repeat (first | apply Kd.R_alloc | apply Kd.R_drewN | apply Kd.R_drew)); exact HO_345001.out⟩, ⟨bk_ BK341.out⟩, ⟨bk_ BK342.out⟩, ⟨bk_ BK344.out⟩, ⟨by repeat (first | (with_reducible first | exact HB.out | apply iF | apply iD | apply iG | refine iE ?_ GE341.out | refine iE ?_ GE342.out | refine iE ?_ GE344.out) | exact HB.out)⟩⟩
              case rest =>
                clear HC50
                try clear c1
                try clear c2
                try clear p2
                try clear c3
                try clear c4
                try clear c5
                try clear c11
                try clear c12
                try clear c12b0
                try clear c13
                try clear c16
                try clear c16b0
                try clear c17
                try clear c20
                try clear c20b0
                try clear c21
                try clear c24
                try clear c24b0
                try clear c25
                try clear c29
                try clear c29b0
                try clear c30
                try clear c33
                try clear c34
                try clear c36
                try clear c39
                try clear c40
                try clear c42
                try clear c43
                try clear c45
                try clear c46
                try clear c48
                try clear c48b0
                try clear c51
                try clear c52
                try clear c55
                try clear c55b0
                try clear hcz14_0
                try clear hcz14_1
                try clear hcz18_0
                try clear hcz18_1
                try clear hcz22_0
                try clear hcz22_1
                try clear hcz26_0
                try clear hcz26_1
                try clear hcz31_0
                try clear hcz31_1
                try clear hcz34_0
                try clear hcz34_1
                try clear hcz37_0
                try clear hcz37_1
                try clear hcz41_0
                try clear hcz41_1
                try clear hcz43_0
                try clear hcz43_1
                try clear hcz47_0
                try clear hcz47_1
                try clear hcz53_0
                try clear hcz53_1
                try clear hfz14_0
                try clear hfz14_1
                try clear hfz18_0
                try clear hfz18_1
                try clear hfz22_0
                try clear hfz22_1
                try clear hfz26_0
                try clear hfz26_1
                try clear hfz31_0
                try clear hfz31_1
                try clear hfz34_0
                try clear hfz34_1
                try clear hfz37_0
                try clear hfz37_1
                try clear hfz41_0
                try clear hfz41_1
                try clear hfz43_0
                try clear hfz43_1
                try clear hfz47_0
                try clear hfz47_1
                try clear hfz53_0
                try clear hfz53_1
                try clear p2
                obtain ⟨kq, x72_49, rfl, HA, HJ49, HO_345001, BK341, BK342, BK344, HB⟩ := hcut
                cases kq with
                | zero => exact absurd HA.out (by simp [stratumref12_Split.j2])
                | succ kj49 =>
                  have H := HA.out
                  clear HA
                  simp only [stratumref12_Split.j2] at H
                  by_cases c56 : x72_49 = true
                  · subst c56
                    have H1 : (if x14_2 = true then (if a5 = x16_2 then (stratumref12_Split.l0 kj49 a1 a3 a4 a5 true x16_2 (wrap64 (x17_2 + 1)) a0_0 l0_1 ((a0_0 + 1) % 4294967296) x345001_2) else (if x345001_2.length < 8796093022208 then (stratumref12_Split.l0 kj49 a1 a3 a4 a5 true a5 (wrap64 (x17_2 + 1)) a0_0 l0_1 ((a0_0 + 1) % 4294967296) (x345001_2 ++ [(⟨x17_2, a5⟩ : S60)])) else (none))) else (if a5 = x16_2 then (stratumref12_Split.l0 kj49 a1 a3 a4 a5 (t345 != a5) x16_2 (wrap64 (x17_2 + 1)) a0_0 l0_1 ((a0_0 + 1) % 4294967296) x345001_2) else (if x345001_2.length < 8796093022208 then (stratumref12_Split.l0 kj49 a1 a3 a4 a5 (t345 != a5) a5 (wrap64 (x17_2 + 1)) a0_0 l0_1 ((a0_0 + 1) % 4294967296) (x345001_2 ++ [(⟨x17_2, a5⟩ : S60)])) else (none)))) = some (r1, r2, r3) := by rw [if_pos rfl] at H; exact H
                    clear H
                    have H := H1
                    clear H1
                    by_cases c57 : x14_2 = true
                    · subst c57
                      have H1 : (if a5 = x16_2 then (stratumref12_Split.l0 kj49 a1 a3 a4 a5 true x16_2 (wrap64 (x17_2 + 1)) a0_0 l0_1 ((a0_0 + 1) % 4294967296) x345001_2) else (if x345001_2.length < 8796093022208 then (stratumref12_Split.l0 kj49 a1 a3 a4 a5 true a5 (wrap64 (x17_2 + 1)) a0_0 l0_1 ((a0_0 + 1) % 4294967296) (x345001_2 ++ [(⟨x17_2, a5⟩ : S60)])) else (none))) = some (r1, r2, r3) := by rw [if_pos rfl] at H; exact H
                      clear H
                      have H := H1
                      clear H1
                      by_cases c58 : a5 = x16_2
                      · rw [if_pos c58] at H
                        have c58b0 : (a5 == x16_2) = true := beq_iff_eq.mpr c58
                        have c58b1 : (a5 != x16_2) = false := bne_eq_false_iff_eq.mpr c58
                        clear c58
                        have H' := iC.mk H
                        clear H
                        go_wp2
                        go_roundg kj49
                        case measure => have := HJ6.out; have := HK2.out; have := HJ49.out; omega
                        case rel => exact ⟨(true), (x16_2), (wrap64 (x17_2 + 1)), (x345001_2), (u345001), (by first | rfl | (simp; done) | (simp [*]; done)), (by first | rfl | (simp; done) | (simp [*]; done)), (by first | rfl | (simp; done) | (simp [*]; done)), H', ⟨by have := HJ6.out; have := HK2.out; have := HJ49.out; omega⟩, ⟨by (with_reducible repeat (first | apply Kd.R_alloc | apply Kd.R_drewN | apply Kd.R_drew)); exact HO_345001.out⟩, ⟨bk_ BK341.out⟩, ⟨bk_ BK342.out⟩, ⟨bk_ BK344.out⟩, ⟨by repeat (first | (with_reducible first | exact HB.out | apply iF | apply iD | apply iG | refine iE ?_ GE341.out | refine iE ?_ GE342.out | refine iE ?_ GE344.out) | exact HB.out)⟩⟩
                      · rw [if_neg c58] at H
                        have c58b0 : (a5 == x16_2) = false := beq_eq_false_iff_ne.mpr c58
                        have c58b1 : (a5 != x16_2) = true := bne_iff_ne.mpr c58
                        by_cases c59 : x345001_2.length < 8796093022208
                        · rw [if_pos c59] at H
                          have LMc59 := iC.mk c59
                          clear c59
                          obtain ⟨y346, hy346⟩ : ∃ y_ : List (S60), y_ = (x345001_2 ++ [(⟨x17_2, a5⟩ : S60)]) := ⟨_, rfl⟩
                          replace H : (stratumref12_Split.l0 kj49 a1 a3 a4 a5 true a5 (wrap64 (x17_2 + 1)) a0_0 l0_1 ((a0_0 + 1) % 4294967296) y346) = some (r1, r2, r3) := by first | (rw [hy346]; with_reducible exact H) | (have H2_ := (Option.bind_some _ _).symm.trans H; rw [hy346]; with_reducible exact H2_) | (have H2_ := (Option.bind_some _ _).symm.trans H; with_reducible exact H2_) | with_reducible exact H | (rw [hy346]; exact H) | exact H
                          have Ny346 := iC.mk hy346
                          clear hy346
                          have H' := iC.mk H
                          clear H
                          have hnb60 := NB344_341.out
                          have hnc60 := NB341_344.out
                          have hnb61 := NB344_342.out
                          have hnc61 := NB342_344.out
                          have hcz62_0 : wc.cell? ⟨gb344, 0, none⟩ = some (.int .u32 ((a0_0 + 1) % 4294967296)) := (iI BK344.out 0).trans rfl
                          have hcz62_1 : wc.cell? ⟨gb344, 1, none⟩ = some (u345001) := (iI BK344.out 1).trans rfl
                          have hfz62_0 := iH BK344.out 0
                          have hfz62_1 := iH BK344.out 1
                          go_wp2_with (first | ((with_reducible refine kF (b := .append) (xs := #[.tmp 84, .tmp 88]) rfl ?_); (try (refine iW (by rfl) ?_; dsimp only)); at_builtin; refine Kd.R_append k60 (w0 := w) w.heap.size rfl (.tmp 84) (.tmp 88) 40 60 (.agg #[(.int .i64 0), (.int .i64 0)]) 16 rfl Try.underlying40 mY rfl (by decide) (by omega) u345001 x345001_2 (⟨x17_2, a5⟩ : S60) [.int .i64 x17_2, .int .i64 a5] (fun _ => True) (fun _ => False) rfl rfl ?aP (fun _ hk => hk.elim) ?aF ?aO ?aB ?aS ?aL ?_; (case aP => exact kS _ _ _ (⟨x17_2, a5⟩ : S60)); (case aB => exact (by repeat (first | (with_reducible first | exact HB.out | apply iF | apply iD | apply iG | refine iE ?_ GE341.out | refine iE ?_ GE342.out | refine iE ?_ GE344.out) | exact HB.out))); (case aF => exact (fun _ _ => trivial)); (case aO => exact (by (with_reducible repeat (first | apply Kd.R_alloc | apply Kd.R_drewN | apply Kd.R_drew)); exact HO_345001.out)); (case aS => exact (iJ (by repeat (first | (with_reducible first | exact HB.out | apply iF | apply iD | apply iG | refine iE ?_ GE341.out | refine iE ?_ GE342.out | refine iE ?_ GE344.out) | exact HB.out)))); (case aL => have := LMc59.out; omega); intro v347 w63 ho hb hg hat; rw [← Ny346.out] at ho; have n0_ := iC.mk (jL (g := gb341) (o := .cells #[.int .u32 a0_0, .slice A0_1 l0_1.length c0_1] 42 (0, 0)) (bk_ BK341.out) hg (Kd.R_ne HO_345001.out BK341.out (by decide))); have n1_ := iC.mk (jL (g := gb342) (o := .cells #[.int .u32 0, .slice none 0 0] 42 (0, 0)) (bk_ BK342.out) hg (Kd.R_ne HO_345001.out BK342.out (by decide))); have n2_ := iC.mk (jL (g := gb344) (o := .cells #[.int .u32 ((a0_0 + 1) % 4294967296), u345001] 42 (0, 0)) (bk_ BK344.out) hg (Kd.R_ne HO_345001.out BK344.out (by decide))); have n3_ := iC.mk (hb); have n4_ := iC.mk (ho); clear BK341; clear BK342; clear BK344; clear HB; clear HO_345001; have BK341 := n0_; have BK342 := n1_; have BK344 := n2_; have HB := n3_; have HO348 := n4_; clear n0_ n1_ n2_ n3_ n4_; clear ho hb hg hat; obtain ⟨Ao64, co64, eo64⟩ := Kd.R_slice HO348.out; subst eo64; have hcz65_0 : w63.cell? ⟨gb344, 0, none⟩ = some (.int .u32 ((a0_0 + 1) % 4294967296)) := (iI BK344.out 0).trans rfl; have hcz65_1 : w63.cell? ⟨gb344, 1, none⟩ = some (u345001) := (iI BK344.out 1).trans rfl; have hfz65_0 := iH BK344.out 0; have hfz65_1 := iH BK344.out 1))
                          go_roundg kj49
                          case measure => have := HJ6.out; have := HK2.out; have := HJ49.out; omega
                          case rel => exact ⟨(true), (a5), (wrap64 (x17_2 + 1)), (y346), (.slice Ao64 y346.length co64), (by first | rfl | (simp; done) | (simp [*]; done)), (by first | rfl | (simp; done) | (simp [*]; done)), (by first | rfl | (simp; done) | (simp [*]; done)), H', ⟨by have := HJ6.out; have := HK2.out; have := HJ49.out; omega⟩, ⟨by (with_reducible repeat (first | apply Kd.R_alloc | apply Kd.R_drewN | apply Kd.R_drew)); exact Kd.R_mono (Kd.R_far (p := ⟨gb344, 1, none⟩) (Kd.R_types HO348.out BK344.out (by decide)) (fun _ hk => hk.2) (.slice Ao64 y346.length co64)) (fun _ hk => trivial)⟩, ⟨by (with_reducible repeat (first | refine iM ?_ _ | refine iO ?_ | refine iL ?_ _)); refine jH ?_ NB341_344.out _; (with_reducible repeat (first | refine iM ?_ _ | refine iO ?_ | refine iL ?_ _)); exact BK341.out⟩, ⟨by (with_reducible repeat (first | refine iM ?_ _ | refine iO ?_ | refine iL ?_ _)); refine jH ?_ NB342_344.out _; (with_reducible repeat (first | refine iM ?_ _ | refine iO ?_ | refine iL ?_ _)); exact BK342.out⟩, ⟨by (with_reducible repeat (first | refine iM ?_ _ | refine iO ?_ | refine iL ?_ _)); refine jD (cs := #[.int .u32 ((a0_0 + 1) % 4294967296), u345001]) ?_ 1 _ rfl; (with_reducible repeat (first | refine iM ?_ _ | refine iO ?_ | refine iL ?_ _)); exact BK344.out⟩, ⟨by repeat (first | (with_reducible first | exact HB.out | apply iF | apply iD | apply iG | refine iE ?_ GE341.out | refine iE ?_ GE342.out | refine iE ?_ GE344.out) | exact HB.out)⟩⟩
                        · rw [if_neg c59] at H
                          exact absurd H (by simp)
                    · replace c57 := Bool.eq_false_iff.mpr c57
                      subst c57
                      have H1 : (if a5 = x16_2 then (stratumref12_Split.l0 kj49 a1 a3 a4 a5 (t345 != a5) x16_2 (wrap64 (x17_2 + 1)) a0_0 l0_1 ((a0_0 + 1) % 4294967296) x345001_2) else (if x345001_2.length < 8796093022208 then (stratumref12_Split.l0 kj49 a1 a3 a4 a5 (t345 != a5) a5 (wrap64 (x17_2 + 1)) a0_0 l0_1 ((a0_0 + 1) % 4294967296) (x345001_2 ++ [(⟨x17_2, a5⟩ : S60)])) else (none))) = some (r1, r2, r3) := by rw [if_neg (show ¬ (false = true) by decide)] at H; exact H
                      clear H
                      have H := H1
                      clear H1
                      by_cases c66 : a5 = x16_2
                      · rw [if_pos c66] at H
                        have c66b0 : (a5 == x16_2) = true := beq_iff_eq.mpr c66
                        have c66b1 : (a5 != x16_2) = false := bne_eq_false_iff_eq.mpr c66
                        clear c66
                        have H' := iC.mk H
                        clear H
                        go_wp2
                        go_roundg kj49
                        case measure => have := HJ6.out; have := HK2.out; have := HJ49.out; omega
                        case rel => exact ⟨((t345 != a5)), (x16_2), (wrap64 (x17_2 + 1)), (x345001_2), (u345001), (by first | rfl | (simp; done) | (simp [*]; done)), (by first | rfl | (simp; done) | (simp [*]; done)), (by first | rfl | (simp; done) | (simp [*]; done)), H', ⟨by have := HJ6.out; have := HK2.out; have := HJ49.out; omega⟩, ⟨by (with_reducible repeat (first | apply Kd.R_alloc | apply Kd.R_drewN | apply Kd.R_drew)); exact HO_345001.out⟩, ⟨bk_ BK341.out⟩, ⟨bk_ BK342.out⟩, ⟨bk_ BK344.out⟩, ⟨by repeat (first | (with_reducible first | exact HB.out | apply iF | apply iD | apply iG | refine iE ?_ GE341.out | refine iE ?_ GE342.out | refine iE ?_ GE344.out) | exact HB.out)⟩⟩
                      · rw [if_neg c66] at H
                        have c66b0 : (a5 == x16_2) = false := beq_eq_false_iff_ne.mpr c66
                        have c66b1 : (a5 != x16_2) = true := bne_iff_ne.mpr c66
                        by_cases c67 : x345001_2.length < 8796093022208
                        · rw [if_pos c67] at H
                          have LMc67 := iC.mk c67
                          clear c67
                          obtain ⟨y349, hy349⟩ : ∃ y_ : List (S60), y_ = (x345001_2 ++ [(⟨x17_2, a5⟩ : S60)]) := ⟨_, rfl⟩
                          replace H : (stratumref12_Split.l0 kj49 a1 a3 a4 a5 (t345 != a5) a5 (wrap64 (x17_2 + 1)) a0_0 l0_1 ((a0_0 + 1) % 4294967296) y349) = some (r1, r2, r3) := by first | (rw [hy349]; with_reducible exact H) | (have H2_ := (Option.bind_some _ _).symm.trans H; rw [hy349]; with_reducible exact H2_) | (have H2_ := (Option.bind_some _ _).symm.trans H; with_reducible exact H2_) | with_reducible exact H | (rw [hy349]; exact H) | exact H
                          have Ny349 := iC.mk hy349
                          clear hy349
                          have H' := iC.mk H
                          clear H
                          have hnb68 := NB344_341.out
                          have hnc68 := NB341_344.out
                          have hnb69 := NB344_342.out
                          have hnc69 := NB342_344.out
                          have hcz70_0 : wc.cell? ⟨gb344, 0, none⟩ = some (.int .u32 ((a0_0 + 1) % 4294967296)) := (iI BK344.out 0).trans rfl
                          have hcz70_1 : wc.cell? ⟨gb344, 1, none⟩ = some (u345001) := (iI BK344.out 1).trans rfl
                          have hfz70_0 := iH BK344.out 0
                          have hfz70_1 := iH BK344.out 1
                          go_wp2_with (first | ((with_reducible refine kF (b := .append) (xs := #[.tmp 84, .tmp 88]) rfl ?_); (try (refine iW (by rfl) ?_; dsimp only)); at_builtin; refine Kd.R_append k60 (w0 := w) w.heap.size rfl (.tmp 84) (.tmp 88) 40 60 (.agg #[(.int .i64 0), (.int .i64 0)]) 16 rfl Try.underlying40 mY rfl (by decide) (by omega) u345001 x345001_2 (⟨x17_2, a5⟩ : S60) [.int .i64 x17_2, .int .i64 a5] (fun _ => True) (fun _ => False) rfl rfl ?aP (fun _ hk => hk.elim) ?aF ?aO ?aB ?aS ?aL ?_; (case aP => exact kS _ _ _ (⟨x17_2, a5⟩ : S60)); (case aB => exact (by repeat (first | (with_reducible first | exact HB.out | apply iF | apply iD | apply iG | refine iE ?_ GE341.out | refine iE ?_ GE342.out | refine iE ?_ GE344.out) | exact HB.out))); (case aF => exact (fun _ _ => trivial)); (case aO => exact (by (with_reducible repeat (first | apply Kd.R_alloc | apply Kd.R_drewN | apply Kd.R_drew)); exact HO_345001.out)); (case aS => exact (iJ (by repeat (first | (with_reducible first | exact HB.out | apply iF | apply iD | apply iG | refine iE ?_ GE341.out | refine iE ?_ GE342.out | refine iE ?_ GE344.out) | exact HB.out)))); (case aL => have := LMc67.out; omega); intro v350 w71 ho hb hg hat; rw [← Ny349.out] at ho; have n0_ := iC.mk (jL (g := gb341) (o := .cells #[.int .u32 a0_0, .slice A0_1 l0_1.length c0_1] 42 (0, 0)) (bk_ BK341.out) hg (Kd.R_ne HO_345001.out BK341.out (by decide))); have n1_ := iC.mk (jL (g := gb342) (o := .cells #[.int .u32 0, .slice none 0 0] 42 (0, 0)) (bk_ BK342.out) hg (Kd.R_ne HO_345001.out BK342.out (by decide))); have n2_ := iC.mk (jL (g := gb344) (o := .cells #[.int .u32 ((a0_0 + 1) % 4294967296), u345001] 42 (0, 0)) (bk_ BK344.out) hg (Kd.R_ne HO_345001.out BK344.out (by decide))); have n3_ := iC.mk (hb); have n4_ := iC.mk (ho); clear BK341; clear BK342; clear BK344; clear HB; clear HO_345001; have BK341 := n0_; have BK342 := n1_; have BK344 := n2_; have HB := n3_; have HO351 := n4_; clear n0_ n1_ n2_ n3_ n4_; clear ho hb hg hat; obtain ⟨Ao72, co72, eo72⟩ := Kd.R_slice HO351.out; subst eo72; have hcz73_0 : w71.cell? ⟨gb344, 0, none⟩ = some (.int .u32 ((a0_0 + 1) % 4294967296)) := (iI BK344.out 0).trans rfl; have hcz73_1 : w71.cell? ⟨gb344, 1, none⟩ = some (u345001) := (iI BK344.out 1).trans rfl; have hfz73_0 := iH BK344.out 0; have hfz73_1 := iH BK344.out 1))
                          go_roundg kj49
                          case measure => have := HJ6.out; have := HK2.out; have := HJ49.out; omega
                          case rel => exact ⟨((t345 != a5)), (a5), (wrap64 (x17_2 + 1)), (y349), (.slice Ao72 y349.length co72), (by first | rfl | (simp; done) | (simp [*]; done)), (by first | rfl | (simp; done) | (simp [*]; done)), (by first | rfl | (simp; done) | (simp [*]; done)), H', ⟨by have := HJ6.out; have := HK2.out; have := HJ49.out; omega⟩, ⟨by (with_reducible repeat (first | apply Kd.R_alloc | apply Kd.R_drewN | apply Kd.R_drew)); exact Kd.R_mono (Kd.R_far (p := ⟨gb344, 1, none⟩) (Kd.R_types HO351.out BK344.out (by decide)) (fun _ hk => hk.2) (.slice Ao72 y349.length co72)) (fun _ hk => trivial)⟩, ⟨by (with_reducible repeat (first | refine iM ?_ _ | refine iO ?_ | refine iL ?_ _)); refine jH ?_ NB341_344.out _; (with_reducible repeat (first | refine iM ?_ _ | refine iO ?_ | refine iL ?_ _)); exact BK341.out⟩, ⟨by (with_reducible repeat (first | refine iM ?_ _ | refine iO ?_ | refine iL ?_ _)); refine jH ?_ NB342_344.out _; (with_reducible repeat (first | refine iM ?_ _ | refine iO ?_ | refine iL ?_ _)); exact BK342.out⟩, ⟨by (with_reducible repeat (first | refine iM ?_ _ | refine iO ?_ | refine iL ?_ _)); refine jD (cs := #[.int .u32 ((a0_0 + 1) % 4294967296), u345001]) ?_ 1 _ rfl; (with_reducible repeat (first | refine iM ?_ _ | refine iO ?_ | refine iL ?_ _)); exact BK344.out⟩, ⟨by repeat (first | (with_reducible first | exact HB.out | apply iF | apply iD | apply iG | refine iE ?_ GE341.out | refine iE ?_ GE342.out | refine iE ?_ GE344.out) | exact HB.out)⟩⟩
                        · rw [if_neg c67] at H
                          exact absurd H (by simp)
                  · replace c56 := Bool.eq_false_iff.mpr c56
                    subst c56
                    have H1 : (if t345 = x16_2 then (stratumref12_Split.l0 kj49 a1 a3 a4 a5 x14_2 x16_2 (wrap64 (x17_2 + 1)) a0_0 l0_1 ((a0_0 + 1) % 4294967296) x345001_2) else (if x345001_2.length < 8796093022208 then (stratumref12_Split.l0 kj49 a1 a3 a4 a5 x14_2 t345 (wrap64 (x17_2 + 1)) a0_0 l0_1 ((a0_0 + 1) % 4294967296) (x345001_2 ++ [(⟨x17_2, t345⟩ : S60)])) else (none))) = some (r1, r2, r3) := by rw [if_neg (show ¬ (false = true) by decide)] at H; exact H
                    clear H
                    have H := H1
                    clear H1
                    by_cases c74 : t345 = x16_2
                    · rw [if_pos c74] at H
                      have c74b0 : (t345 == x16_2) = true := beq_iff_eq.mpr c74
                      have c74b1 : (t345 != x16_2) = false := bne_eq_false_iff_eq.mpr c74
                      clear c74
                      have H' := iC.mk H
                      clear H
                      go_wp2
                      go_roundg kj49
                      case measure => have := HJ6.out; have := HK2.out; have := HJ49.out; omega
                      case rel => exact ⟨(x14_2), (x16_2), (wrap64 (x17_2 + 1)), (x345001_2), (u345001), (by first | rfl | (simp; done) | (simp [*]; done)), (by first | rfl | (simp; done) | (simp [*]; done)), (by first | rfl | (simp; done) | (simp [*]; done)), H', ⟨by have := HJ6.out; have := HK2.out; have := HJ49.out; omega⟩, ⟨by (with_reducible repeat (first | apply Kd.R_alloc | apply Kd.R_drewN | apply Kd.R_drew)); exact HO_345001.out⟩, ⟨bk_ BK341.out⟩, ⟨bk_ BK342.out⟩, ⟨bk_ BK344.out⟩, ⟨by repeat (first | (with_reducible first | exact HB.out | apply iF | apply iD | apply iG | refine iE ?_ GE341.out | refine iE ?_ GE342.out | refine iE ?_ GE344.out) | exact HB.out)⟩⟩
                    · rw [if_neg c74] at H
                      have c74b0 : (t345 == x16_2) = false := beq_eq_false_iff_ne.mpr c74
                      have c74b1 : (t345 != x16_2) = true := bne_iff_ne.mpr c74
                      by_cases c75 : x345001_2.length < 8796093022208
                      · rw [if_pos c75] at H
                        have LMc75 := iC.mk c75
                        clear c75
                        obtain ⟨y352, hy352⟩ : ∃ y_ : List (S60), y_ = (x345001_2 ++ [(⟨x17_2, t345⟩ : S60)]) := ⟨_, rfl⟩
                        replace H : (stratumref12_Split.l0 kj49 a1 a3 a4 a5 x14_2 t345 (wrap64 (x17_2 + 1)) a0_0 l0_1 ((a0_0 + 1) % 4294967296) y352) = some (r1, r2, r3) := by first | (rw [hy352]; with_reducible exact H) | (have H2_ := (Option.bind_some _ _).symm.trans H; rw [hy352]; with_reducible exact H2_) | (have H2_ := (Option.bind_some _ _).symm.trans H; with_reducible exact H2_) | with_reducible exact H | (rw [hy352]; exact H) | exact H
                        have Ny352 := iC.mk hy352
                        clear hy352
                        have H' := iC.mk H
                        clear H
                        have hnb76 := NB344_341.out
                        have hnc76 := NB341_344.out
                        have hnb77 := NB344_342.out
                        have hnc77 := NB342_344.out
                        have hcz78_0 : wc.cell? ⟨gb344, 0, none⟩ = some (.int .u32 ((a0_0 + 1) % 4294967296)) := (iI BK344.out 0).trans rfl
                        have hcz78_1 : wc.cell? ⟨gb344, 1, none⟩ = some (u345001) := (iI BK344.out 1).trans rfl
                        have hfz78_0 := iH BK344.out 0
                        have hfz78_1 := iH BK344.out 1
                        go_wp2_with (first | ((with_reducible refine kF (b := .append) (xs := #[.tmp 84, .tmp 88]) rfl ?_); (try (refine iW (by rfl) ?_; dsimp only)); at_builtin; refine Kd.R_append k60 (w0 := w) w.heap.size rfl (.tmp 84) (.tmp 88) 40 60 (.agg #[(.int .i64 0), (.int .i64 0)]) 16 rfl Try.underlying40 mY rfl (by decide) (by omega) u345001 x345001_2 (⟨x17_2, t345⟩ : S60) [.int .i64 x17_2, .int .i64 t345] (fun _ => True) (fun _ => False) rfl rfl ?aP (fun _ hk => hk.elim) ?aF ?aO ?aB ?aS ?aL ?_; (case aP => exact kS _ _ _ (⟨x17_2, t345⟩ : S60)); (case aB => exact (by repeat (first | (with_reducible first | exact HB.out | apply iF | apply iD | apply iG | refine iE ?_ GE341.out | refine iE ?_ GE342.out | refine iE ?_ GE344.out) | exact HB.out))); (case aF => exact (fun _ _ => trivial)); (case aO => exact (by (with_reducible repeat (first | apply Kd.R_alloc | apply Kd.R_drewN | apply Kd.R_drew)); exact HO_345001.out)); (case aS => exact (iJ (by repeat (first | (with_reducible first | exact HB.out | apply iF | apply iD | apply iG | refine iE ?_ GE341.out | refine iE ?_ GE342.out | refine iE ?_ GE344.out) | exact HB.out)))); (case aL => have := LMc75.out; omega); intro v353 w79 ho hb hg hat; rw [← Ny352.out] at ho; have n0_ := iC.mk (jL (g := gb341) (o := .cells #[.int .u32 a0_0, .slice A0_1 l0_1.length c0_1] 42 (0, 0)) (bk_ BK341.out) hg (Kd.R_ne HO_345001.out BK341.out (by decide))); have n1_ := iC.mk (jL (g := gb342) (o := .cells #[.int .u32 0, .slice none 0 0] 42 (0, 0)) (bk_ BK342.out) hg (Kd.R_ne HO_345001.out BK342.out (by decide))); have n2_ := iC.mk (jL (g := gb344) (o := .cells #[.int .u32 ((a0_0 + 1) % 4294967296), u345001] 42 (0, 0)) (bk_ BK344.out) hg (Kd.R_ne HO_345001.out BK344.out (by decide))); have n3_ := iC.mk (hb); have n4_ := iC.mk (ho); clear BK341; clear BK342; clear BK344; clear HB; clear HO_345001; have BK341 := n0_; have BK342 := n1_; have BK344 := n2_; have HB := n3_; have HO354 := n4_; clear n0_ n1_ n2_ n3_ n4_; clear ho hb hg hat; obtain ⟨Ao80, co80, eo80⟩ := Kd.R_slice HO354.out; subst eo80; have hcz81_0 : w79.cell? ⟨gb344, 0, none⟩ = some (.int .u32 ((a0_0 + 1) % 4294967296)) := (iI BK344.out 0).trans rfl; have hcz81_1 : w79.cell? ⟨gb344, 1, none⟩ = some (u345001) := (iI BK344.out 1).trans rfl; have hfz81_0 := iH BK344.out 0; have hfz81_1 := iH BK344.out 1))
                        go_roundg kj49
                        case measure => have := HJ6.out; have := HK2.out; have := HJ49.out; omega
                        case rel => exact ⟨(x14_2), (t345), (wrap64 (x17_2 + 1)), (y352), (.slice Ao80 y352.length co80), (by first | rfl | (simp; done) | (simp [*]; done)), (by first | rfl | (simp; done) | (simp [*]; done)), (by first | rfl | (simp; done) | (simp [*]; done)), H', ⟨by have := HJ6.out; have := HK2.out; have := HJ49.out; omega⟩, ⟨by (with_reducible repeat (first | apply Kd.R_alloc | apply Kd.R_drewN | apply Kd.R_drew)); exact Kd.R_mono (Kd.R_far (p := ⟨gb344, 1, none⟩) (Kd.R_types HO354.out BK344.out (by decide)) (fun _ hk => hk.2) (.slice Ao80 y352.length co80)) (fun _ hk => trivial)⟩, ⟨by (with_reducible repeat (first | refine iM ?_ _ | refine iO ?_ | refine iL ?_ _)); refine jH ?_ NB341_344.out _; (with_reducible repeat (first | refine iM ?_ _ | refine iO ?_ | refine iL ?_ _)); exact BK341.out⟩, ⟨by (with_reducible repeat (first | refine iM ?_ _ | refine iO ?_ | refine iL ?_ _)); refine jH ?_ NB342_344.out _; (with_reducible repeat (first | refine iM ?_ _ | refine iO ?_ | refine iL ?_ _)); exact BK342.out⟩, ⟨by (with_reducible repeat (first | refine iM ?_ _ | refine iO ?_ | refine iL ?_ _)); refine jD (cs := #[.int .u32 ((a0_0 + 1) % 4294967296), u345001]) ?_ 1 _ rfl; (with_reducible repeat (first | refine iM ?_ _ | refine iO ?_ | refine iL ?_ _)); exact BK344.out⟩, ⟨by repeat (first | (with_reducible first | exact HB.out | apply iF | apply iD | apply iG | refine iE ?_ GE341.out | refine iE ?_ GE342.out | refine iE ?_ GE344.out) | exact HB.out)⟩⟩
                      · rw [if_neg c75] at H
                        exact absurd H (by simp)
            · rw [if_neg c48] at H
              have c48b0 : decide (x17_2 < a1) = false := decide_eq_false c48
              clear c48
              by_cases c82 : x14_2 = true
              · subst c82
                have H1 : (if (x345001_2.length : Int) > 40 then (some (0, ([] : List (S60)), 3)) else (some (((a0_0 + 1) % 4294967296), x345001_2, 0))) = some (r1, r2, r3) := by rw [if_pos rfl] at H; exact H
                clear H
                have H := H1
                clear H1
                by_cases c83 : (x345001_2.length : Int) > 40
                · rw [if_pos c83] at H
                  have c83b0 : decide (40 < (x345001_2.length : Int)) = true := decide_eq_true c83
                  have c83b1 : decide (40 < x345001_2.length) = true := decide_eq_true (by omega)
                  clear c83
                  simp only [Option.some.injEq, Prod.mk.injEq] at H
                  obtain ⟨rfl, rfl, rfl⟩ := H
                  have hnb84 := NB344_341.out
                  have hnc84 := NB341_344.out
                  have hnb85 := NB344_342.out
                  have hnc85 := NB342_344.out
                  have hcz86_0 : wr.cell? ⟨gb344, 0, none⟩ = some (.int .u32 ((a0_0 + 1) % 4294967296)) := (iI BK344.out 0).trans rfl
                  have hcz86_1 : wr.cell? ⟨gb344, 1, none⟩ = some (u345001) := (iI BK344.out 1).trans rfl
                  have hfz86_0 := iH BK344.out 0
                  have hfz86_1 := iH BK344.out 1
                  obtain ⟨Ao87, co87, eo87⟩ := Kd.R_slice HO_345001.out
                  subst eo87
                  have hnb88 := NB342_341.out
                  have hnc88 := NB341_342.out
                  have hcz89_0 : wr.cell? ⟨gb342, 0, none⟩ = some (.int .u32 0) := (iI BK342.out 0).trans rfl
                  have hcz89_1 : wr.cell? ⟨gb342, 1, none⟩ = some (.slice none 0 0) := (iI BK342.out 1).trans rfl
                  have hfz89_0 := iH BK342.out 0
                  have hfz89_1 := iH BK342.out 1
                  go_wp2
                  refine bodyPost_ret (kM rfl _ _ gb342 42 #[.int .u32 0, .slice none 0 0] (0, 0) _ rfl (by (with_reducible repeat (first | refine iM ?_ _ | refine iO ?_ | refine iL ?_ _)); refine jD (cs := #[.int .u32 0, .slice none 0 0]) ?_ 1 _ rfl; (with_reducible repeat (first | refine iM ?_ _ | refine iO ?_ | refine iL ?_ _)); refine jD (cs := #[.int .u32 0, .slice none 0 0]) ?_ 0 _ rfl; (with_reducible repeat (first | refine iM ?_ _ | refine iO ?_ | refine iL ?_ _)); exact BK342.out) Try.underlying42 rfl (by kernel_rfl)) rfl ?_
                  exact ⟨_, by first | rfl | (simp [iR, iQ] <;> rfl) | (simp [*, iR, iQ] <;> rfl), by first | exact Kd.R_nil _ _ _ _ _ | exact Kd.N_nil _ _ _ _ _ | exact Kd.V_nil _ _ _ _ _ | exact Kd.Q_nil _ _ _ _ _ | exact Kd.S_nil _ _ _ _ _, by repeat (first | (with_reducible first | exact HB.out | apply iF | apply iD | apply iG | refine iE ?_ GE341.out | refine iE ?_ GE342.out | refine iE ?_ GE344.out) | exact HB.out)⟩
                · rw [if_neg c83] at H
                  have c83b0 : decide (40 < (x345001_2.length : Int)) = false := decide_eq_false c83
                  have c83b1 : decide (40 < x345001_2.length) = false := decide_eq_false (by omega)
                  clear c83
                  simp only [Option.some.injEq, Prod.mk.injEq] at H
                  obtain ⟨rfl, rfl, rfl⟩ := H
                  have hnb90 := NB344_341.out
                  have hnc90 := NB341_344.out
                  have hnb91 := NB344_342.out
                  have hnc91 := NB342_344.out
                  have hcz92_0 : wr.cell? ⟨gb344, 0, none⟩ = some (.int .u32 ((a0_0 + 1) % 4294967296)) := (iI BK344.out 0).trans rfl
                  have hcz92_1 : wr.cell? ⟨gb344, 1, none⟩ = some (u345001) := (iI BK344.out 1).trans rfl
                  have hfz92_0 := iH BK344.out 0
                  have hfz92_1 := iH BK344.out 1
                  obtain ⟨Ao93, co93, eo93⟩ := Kd.R_slice HO_345001.out
                  subst eo93
                  have hnb94 := NB342_341.out
                  have hnc94 := NB341_342.out
                  have hcz95_0 : wr.cell? ⟨gb342, 0, none⟩ = some (.int .u32 0) := (iI BK342.out 0).trans rfl
                  have hcz95_1 : wr.cell? ⟨gb342, 1, none⟩ = some (.slice none 0 0) := (iI BK342.out 1).trans rfl
                  have hfz95_0 := iH BK342.out 0
                  have hfz95_1 := iH BK342.out 1
                  go_wp2
                  refine bodyPost_ret (kM rfl _ _ gb342 42 #[.int .u32 ((a0_0 + 1) % 4294967296), .slice Ao93 x345001_2.length co93] (0, 0) _ rfl (by (with_reducible repeat (first | refine iM ?_ _ | refine iO ?_ | refine iL ?_ _)); refine jD (cs := #[.int .u32 ((a0_0 + 1) % 4294967296), .slice none 0 0]) ?_ 1 _ rfl; (with_reducible repeat (first | refine iM ?_ _ | refine iO ?_ | refine iL ?_ _)); refine jD (cs := #[.int .u32 0, .slice none 0 0]) ?_ 0 _ rfl; (with_reducible repeat (first | refine iM ?_ _ | refine iO ?_ | refine iL ?_ _)); exact BK342.out) Try.underlying42 rfl (by kernel_rfl)) rfl ?_
                  exact ⟨_, by first | rfl | (simp [iR, iQ] <;> rfl) | (simp [*, iR, iQ] <;> rfl), by (with_reducible repeat (first | apply Kd.R_alloc | apply Kd.R_drewN | apply Kd.R_drew)); exact Kd.R_mono (Kd.R_far (p := ⟨gb342, 1, none⟩) (Kd.R_far (p := ⟨gb342, 0, none⟩) (Kd.R_types HO_345001.out BK342.out (by decide)) (fun _ hk => hk.2) (.int .u32 ((a0_0 + 1) % 4294967296))) (fun _ hk => hk.2) (.slice Ao93 x345001_2.length co93)) (fun _ hk => trivial), by repeat (first | (with_reducible first | exact HB.out | apply iF | apply iD | apply iG | refine iE ?_ GE341.out | refine iE ?_ GE342.out | refine iE ?_ GE344.out) | exact HB.out)⟩
              · replace c82 := Bool.eq_false_iff.mpr c82
                subst c82
                have H1 : (some (0, ([] : List (S60)), 120)) = some (r1, r2, r3) := by rw [if_neg (show ¬ (false = true) by decide)] at H; exact H
                clear H
                have H := H1
                clear H1
                simp only [Option.some.injEq, Prod.mk.injEq] at H
                obtain ⟨rfl, rfl, rfl⟩ := H
                have hnb96 := NB342_341.out
                have hnc96 := NB341_342.out
                have hnb97 := NB342_344.out
                have hnc97 := NB344_342.out
                have hcz98_0 : wr.cell? ⟨gb342, 0, none⟩ = some (.int .u32 0) := (iI BK342.out 0).trans rfl
                have hcz98_1 : wr.cell? ⟨gb342, 1, none⟩ = some (.slice none 0 0) := (iI BK342.out 1).trans rfl
                have hfz98_0 := iH BK342.out 0
                have hfz98_1 := iH BK342.out 1
                go_wp2
                refine bodyPost_ret (kM rfl _ _ gb342 42 #[.int .u32 0, .slice none 0 0] (0, 0) _ rfl (by (with_reducible repeat (first | refine iM ?_ _ | refine iO ?_ | refine iL ?_ _)); refine jD (cs := #[.int .u32 0, .slice none 0 0]) ?_ 1 _ rfl; (with_reducible repeat (first | refine iM ?_ _ | refine iO ?_ | refine iL ?_ _)); refine jD (cs := #[.int .u32 0, .slice none 0 0]) ?_ 0 _ rfl; (with_reducible repeat (first | refine iM ?_ _ | refine iO ?_ | refine iL ?_ _)); exact BK342.out) Try.underlying42 rfl (by kernel_rfl)) rfl ?_
                exact ⟨_, by first | rfl | (simp [iR, iQ] <;> rfl) | (simp [*, iR, iQ] <;> rfl), by first | exact Kd.R_nil _ _ _ _ _ | exact Kd.N_nil _ _ _ _ _ | exact Kd.V_nil _ _ _ _ _ | exact Kd.Q_nil _ _ _ _ _ | exact Kd.S_nil _ _ _ _ _, by repeat (first | (with_reducible first | exact HB.out | apply iF | apply iD | apply iG | refine iE ?_ GE341.out | refine iE ?_ GE342.out | refine iE ?_ GE344.out) | exact HB.out)⟩
end Go.Proofs.Ytbpdejbkfpkphaa.K
end

section
namespace Go.Proofs.Ytbpdejbkfpkphaa.K
open Go Go.RowKit Go.Proofs.YtbpdejbkfpkphaaW.PrintWords Go.Proofs.YtbpdejbkfpkphaaW.PrintLast Go.Proofs.YtbpdejbkfpkphaaW.PrintMore
theorem oG (m a : Int) (l : List TSp) (hl : (l.length : Int) ≤ 1000000) :
    ∀ (k i : Nat) (d : Int), i ≤ l.length → l.length - i < k → stratumref12_Find.l0 k m d i a l = some (fd d (l.drop i) m)
  | 0, _, _, _, h => by omega
  | k + 1, i, d, hi, hki => by
    rw [stratumref12_Find.l0]
    by_cases hlt : i < l.length
    · rw [if_pos (by omega), if_pos (by omega), lW l i hlt, drop_cons l i hlt, lX i (by omega), kZ]
      by_cases h1 : l[i].f0 ≤ m
      · rw [if_pos h1, if_pos h1]; exact oG m a l hl k (i + 1) _ (by omega) (by omega)
      · rw [if_neg h1, if_neg h1]; exact oG m a l hl k (i + 1) _ (by omega) (by omega)
    · rw [if_neg (by omega), List.drop_eq_nil_of_le (by omega)]; rfl
theorem vW (k : Nat) (a : Int) (l : List TSp) (m : Int) (hl : (l.length : Int) ≤ 1000000) (hk : l.length < k) : stratumref12_Find.f k a l m = some (jQ l m) := by
  unfold stratumref12_Find.f
  rw [lD]
  exact oG m a l hl k 0 (-1) (by omega) (by omega)
/-- Is any member of the range another's, from v on, n members? -/
def oth (l : List TSp) (fr tt node : Int) : Int → Nat → Bool
  | _, 0 => false
  | v, n + 1 => (decide (fr ≤ v ∧ v < tt) && (jQ l v != node)) || oth l fr tt node (v + 1) n
def rEnd (e : Int) (o : Bool) (L : List TSp) : Int × List TSp × Int := if o = true then (if (L.length : Int) > 40 then (0, [], 3) else (e, L, 0)) else (0, [], 120)
theorem pR (a size fr tt node e : Int) (l : List TSp) (hl : (l.length : Int) ≤ 1000000) (hsz : size ≤ 10000) :
    ∀ (n k : Nat) (o : Bool) (last v : Int) (out : List TSp), size = v + n → 0 ≤ v → 2 * n + l.length + 5 < k → (out.length : Int) ≤ v →
      stratumref12_Split.l0 k size fr tt node o last v a l e out = some (rEnd e (o || oth l fr tt node v n) (out ++ cn (mv l fr tt node) last v n))
  | 0, k, o, last, v, out, hs, hv, hk, ho => by
    obtain ⟨k, rfl⟩ : ∃ j, k = j + 1 := ⟨k - 1, by omega⟩
    rw [stratumref12_Split.l0, if_neg (by omega)]
    unfold rEnd
    simp only [oth, cn, Bool.or_false, List.append_nil]
    split
    · split <;> rfl
    · rfl
  | n + 1, k, o, last, v, out, hs, hv, hk, ho => by
    obtain ⟨k, rfl⟩ : ∃ j, k = j + 2 := ⟨k - 2, by omega⟩
    have ih := fun o last out h => pR a size fr tt node e l hl hsz n k o last (v + 1) out (by omega) (by omega) (by omega) h
    have hw : wrap64 (v + 1) = v + 1 := by unfold wrap64; omega
    rw [stratumref12_Split.l0, if_pos (by omega), vW _ _ _ _ hl (by omega)]
    simp only [Option.bind_some, hw, oth, cn]
    by_cases hr : fr ≤ v ∧ v < tt
    · have hm : mv l fr tt node v = node := by unfold mv; rw [if_pos hr]
      rw [if_pos hr.1, decide_eq_true hr.2, stratumref12_Split.j2, if_pos rfl, hm, decide_eq_true hr]
      simp only [hw, Bool.true_and]
      cases o
      · rw [if_neg (by decide)]
        by_cases he : node = last
        · rw [if_pos he, if_pos he, ih _ _ _ (by omega), Bool.false_or]
        · rw [if_neg he, if_neg he, if_pos (by omega), ih _ _ _ (by simp; omega), Bool.false_or, List.append_assoc]; rfl
      · rw [if_pos rfl]
        by_cases he : node = last
        · rw [if_pos he, if_pos he, ih _ _ _ (by omega)]; simp
        · rw [if_neg he, if_neg he, if_pos (by omega), ih _ _ _ (by simp; omega), List.append_assoc]; simp
    · have hm : mv l fr tt node v = jQ l v := by unfold mv; rw [if_neg hr]
      have hj : (if v ≥ fr then stratumref12_Split.j2 (k + 1) size fr tt node o last v (jQ l v) (decide (v < tt)) a l e out else stratumref12_Split.j2 (k + 1) size fr tt node o last v (jQ l v) false a l e out) = stratumref12_Split.j2 (k + 1) size fr tt node o last v (jQ l v) false a l e out := by
        by_cases h1 : v ≥ fr
        · rw [if_pos h1, decide_eq_false (fun h2 => hr ⟨h1, h2⟩)]
        · rw [if_neg h1]
      rw [hj, stratumref12_Split.j2, if_neg (by decide), hm, decide_eq_false hr]
      simp only [hw, Bool.false_and, Bool.false_or]
      by_cases he : jQ l v = last
      · rw [if_pos he, if_pos he, ih _ _ _ (by omega)]
      · rw [if_neg he, if_neg he, if_pos (by omega), ih _ _ _ (by simp; omega), List.append_assoc]; rfl
end Go.Proofs.Ytbpdejbkfpkphaa.K
end

section
namespace Go.Proofs.Ytbpdejbkfpkphaa.K
open Go Go.RowKit Go.Proofs.YtbpdejbkfpkphaaW.PrintWords Go.Proofs.YtbpdejbkfpkphaaW.PrintLast Go.Proofs.YtbpdejbkfpkphaaW.PrintMore
theorem yC (l : List TSp) (i : Nat) (h : i < l.length) : rdSp l (i : Int) = l[i] := lW l i h
theorem oW (a size nodes : Int) (l : List TSp) (hl : (l.length : Int) ≤ 1000000) (hn : 0 < l.length) :
    ∀ (k i : Nat), i + 1 ≤ l.length → 2 * (l.length - i) < k → stratumref12_Sound.l0 k size nodes ((i + 1 : Nat) : Int) a l = some (sndF size nodes (rdSp l i).f0 (rdSp l i).f1 (l.drop (i + 1)) && decide (l.length ≤ 40))
  | 0, _, _, h => by omega
  | 1, _, _, h => by omega
  | k + 2, i, hi, hki => by
    rw [stratumref12_Sound.l0]
    by_cases hlt : i + 1 < l.length
    · have hw : wrap64 (((i + 1 : Nat) : Int) - 1) = (i : Int) := by unfold wrap64; omega
      have hw2 : wrap64 (((i + 1 : Nat) : Int) + 1) = ((i + 2 : Nat) : Int) := by unfold wrap64; omega
      have hb : ∀ c, stratumref12_Sound.j1 (k + 1) size nodes ((i + 1 : Nat) : Int) true c l = some false := fun c => by rw [stratumref12_Sound.j1, if_pos rfl]
      rw [if_pos (by omega), if_pos (by omega), lW l (i + 1) hlt, drop_cons l (i + 1) hlt, yC l i (by omega)]
      rw [show sndF size nodes l[i].f0 l[i].f1 (l[i + 1] :: l.drop (i + 1 + 1)) = (!decide (l[i + 1].f0 ≤ l[i].f0) && !decide (l[i + 1].f0 ≥ size) && !decide (l[i + 1].f1 = l[i].f1) && !decide (l[i + 1].f1 < 0) && !decide (l[i + 1].f1 ≥ mn nodes 6) && sndF size nodes l[i + 1].f0 l[i + 1].f1 (l.drop (i + 1 + 1))) from rfl]
      by_cases h4 : l[i + 1].f1 < 0
      · rw [if_pos h4, hb]; simp [h4]
      rw [if_neg h4]
      by_cases h5 : l[i + 1].f1 ≥ mn nodes 6
      · rw [if_pos h5, hb]; simp [h5]
      rw [if_neg h5]
      by_cases h2 : l[i + 1].f0 ≥ size
      · rw [if_pos h2, hb]; simp [h2]
      rw [if_neg h2, if_neg (by omega), stratumref12_Sound.j1, if_neg (by decide), if_pos (by omega), if_pos (by omega), if_pos (by omega), hw, if_pos (by omega), if_pos (by omega), lW l (i + 1) hlt, lW l i (by omega)]
      by_cases h1 : l[i + 1].f0 ≤ l[i].f0
      · rw [if_pos h1]; simp [h1]
      rw [if_neg h1]
      by_cases h3 : l[i + 1].f1 = l[i].f1
      · rw [if_pos h3]; simp [h3]
      rw [if_neg h3, hw2, oW a size nodes l hl hn k (i + 1) (by omega) (by omega), yC l (i + 1) hlt]
      simp only [h1, h2, h3, h4, h5, decide_false, Bool.not_false, Bool.true_and]
    · rw [if_neg (by omega), if_pos (by omega), List.drop_eq_nil_of_le (by omega)]
      simp only [sndF, Bool.true_and]
      congr 1
      by_cases h : l.length ≤ 40
      · rw [decide_eq_true h, decide_eq_true (by omega)]
      · rw [decide_eq_false h, decide_eq_false (by omega)]
theorem vK (k : Nat) (a : Int) (l : List TSp) (size nodes : Int) (hl : (l.length : Int) ≤ 1000000) (hk : 2 * l.length + 5 < k) : stratumref12_Sound.f k a l size nodes = some (mZ l size nodes) := by
  obtain ⟨k, rfl⟩ : ∃ j, k = j + 2 := ⟨k - 2, by omega⟩
  unfold stratumref12_Sound.f mZ
  rw [stratumref12_Sound.l0]
  by_cases h0 : l.length = 0
  · rw [if_neg (by omega), if_neg (by omega)]; simp [h0]
  · obtain ⟨x, r, rfl⟩ : ∃ x r, l = x :: r := by
      cases l with
      | nil => simp at h0
      | cons x r => exact ⟨x, r, rfl⟩
    have hb : stratumref12_Sound.j1 (k + 1) size nodes 0 true a (x :: r) = some false := by rw [stratumref12_Sound.j1, if_pos rfl]
    have hx : iT (x :: r) 0 = x := rfl
    have hx' : rdSp (x :: r) 0 = x := rfl
    rw [if_pos (by simp), if_pos (by omega), hx, hx']
    rw [show sndF size nodes (-1) (-1) (x :: r) = (!decide (x.f0 ≤ -1) && !decide (x.f0 ≥ size) && !decide (x.f1 = -1) && !decide (x.f1 < 0) && !decide (x.f1 ≥ mn nodes 6) && sndF size nodes x.f0 x.f1 r) from rfl]
    by_cases h4 : x.f1 < 0
    · rw [if_pos h4, hb]; simp [h4]
    rw [if_neg h4]
    by_cases h5 : x.f1 ≥ mn nodes 6
    · rw [if_pos h5, hb]; simp [h5]
    rw [if_neg h5]
    by_cases h2 : x.f0 ≥ size
    · rw [if_pos h2, hb]; simp [h2]
    rw [if_neg h2, if_pos rfl, stratumref12_Sound.j1]
    by_cases h6 : x.f0 = 0
    · rw [if_neg (by simp [h6]), if_neg (by omega)]
      have := oW a size nodes (x :: r) hl (by simp) k 0 (by simp) (by simp at hk ⊢; omega)
      rw [show wrap64 (0 + 1) = ((0 + 1 : Nat) : Int) by unfold wrap64; omega, this, show rdSp (x :: r) ((0 : Nat) : Int) = x from rfl]
      have h7 : ¬ x.f1 = -1 := by omega
      have h8 : ¬ x.f0 ≤ -1 := by omega
      simp only [h2, h4, h5, h6, h7, h8, decide_false, decide_true, Bool.not_false, Bool.true_and, List.drop_succ_cons, List.drop_zero, Nat.zero_add, decide_eq_true h0, Bool.and_true, decide_not]
      have h9 : ¬ size ≤ 0 := by omega
      simp [h0, h9, Bool.and_comm]
    · rw [if_pos (by simp [h6])]; simp [h6]
end Go.Proofs.Ytbpdejbkfpkphaa.K
end

section
namespace Go.Proofs.Ytbpdejbkfpkphaa.K
open Go Go.RowKit Go.Proofs.YtbpdejbkfpkphaaW.PrintWords Go.Proofs.YtbpdejbkfpkphaaW.PrintLast Go.Proofs.YtbpdejbkfpkphaaW.PrintMore
theorem nK (l : List TSp) (fr tt node : Int) : ∀ (n : Nat) (v : Int), oth l fr tt node v n = true ↔ ∃ u, v ≤ u ∧ u < v + n ∧ fr ≤ u ∧ u < tt ∧ jQ l u ≠ node
  | 0, v => by simp [oth]; intros; omega
  | n + 1, v => by
    simp only [oth, Bool.or_eq_true, Bool.and_eq_true, decide_eq_true_eq, bne_iff_ne, nK l fr tt node n (v + 1)]
    constructor
    · rintro (⟨⟨h1, h2⟩, h3⟩ | ⟨u, h1, h2, h3⟩)
      · exact ⟨v, by omega, by omega, h1, h2, h3⟩
      · exact ⟨u, by omega, by omega, h3⟩
    · rintro ⟨u, h1, h2, h3, h4, h5⟩
      by_cases hu : u = v
      · subst hu; exact .inl ⟨⟨h3, h4⟩, h5⟩
      · exact .inr ⟨u, by omega, by omega, h3, h4, h5⟩
theorem pU {l : List TSp} {nodes fr tt node : Int} {n : Nat} (h : Snd l n nodes) (h0 : 0 ≤ fr) (h1 : fr < tt) (h2 : tt ≤ n) (h3 : 0 ≤ node) (h4 : node < mn nodes 6) (h5 : (n : Int) ≤ 10000) : lH l fr tt = [node] ↔ oth l fr tt node 0 n = false := by
  have e1 : loN fr = fr := by show mx fr 0 = fr; unfold mx; split <;> omega
  have e2 : hiN tt = tt := by show mn tt 10000 = tt; unfold mn; split <;> omega
  have e6 : mn nodes 6 ≤ 6 := by unfold mn; split <;> omega
  have hall : oth l fr tt node 0 n = false ↔ ∀ u, fr ≤ u → u < tt → jQ l u = node := by
    constructor
    · intro ho u hu1 hu2
      cases hd : decide (jQ l u = node)
      · have := (nK l fr tt node n 0).2 ⟨u, by omega, by omega, hu1, hu2, by simpa using hd⟩
        rw [ho] at this; cases this
      · simpa using hd
    · intro ha
      cases ho : oth l fr tt node 0 n
      · rfl
      · obtain ⟨u, _, _, hu1, hu2, hu3⟩ := (nK l fr tt node n 0).1 ho
        exact absurd (ha u hu1 hu2) hu3
  rw [hall]
  unfold lH
  rw [e1, e2]
  constructor
  · intro hl u hu1 hu2
    have hf := h.find u (by omega)
    have : jQ l u ∈ ([0, 1, 2, 3, 4, 5] : List Int).filter (rU l fr tt) := List.mem_filter.2 ⟨by simp; omega, (mG l fr tt _).2 ⟨u, hu1, hu2, rfl⟩⟩
    rw [hl] at this
    simpa using this
  · intro ha
    have hb : rU l fr tt = fun x => decide (x = node) := by
      funext x
      cases hd : rU l fr tt x
      · symm
        rw [decide_eq_false_iff_not]
        rintro rfl
        have := (mG l fr tt x).2 ⟨fr, Int.le_refl _, h1, ha fr (Int.le_refl _) h1⟩
        rw [hd] at this; cases this
      · obtain ⟨u, hu1, hu2, rfl⟩ := (mG l fr tt x).1 hd
        simp [ha u hu1 hu2]
    rw [hb]
    have : node = 0 ∨ node = 1 ∨ node = 2 ∨ node = 3 ∨ node = 4 ∨ node = 5 := by omega
    rcases this with rfl | rfl | rfl | rfl | rfl | rfl <;> decide
end Go.Proofs.Ytbpdejbkfpkphaa.K
end

section
namespace Go.Proofs.Ytbpdejbkfpkphaa.K
open Go Go.RowKit Go.Proofs.YtbpdejbkfpkphaaW.PrintWords Go.Proofs.YtbpdejbkfpkphaaW.PrintLast Go.Proofs.YtbpdejbkfpkphaaW.PrintMore
theorem uH (k : Nat) (a : Int) (l : List TSp) (size nodes fr tt node : Int) (hl : (l.length : Int) ≤ 1000000) (hk : 20000 + 2 * l.length + 20 < k) : stratumref12_Split.f k a l size nodes fr tt node = some (lS a l size nodes fr tt node) := by
  obtain ⟨k, rfl⟩ : ∃ j, k = j + 1 := ⟨k - 1, by omega⟩
  have bad : ¬ okS l size nodes fr tt node → stratumref12_Split.j0 (k + 1) size fr tt node true a l = some (lS a l size nodes fr tt node) := fun h => by
    rw [stratumref12_Split.j0, if_pos rfl]
    unfold lS
    rw [if_neg (fun hh => h hh.1)]
  unfold stratumref12_Split.f
  rw [vK (k + 1) a l size nodes hl (by omega)]
  simp only [Option.bind_some]
  by_cases hs : mZ l size nodes = true
  · rw [if_pos hs]
    by_cases h2 : fr < 0
    · rw [if_pos h2]; exact bad (fun h => by have := h.2.2.1; omega)
    rw [if_neg h2]
    by_cases h3 : fr ≥ tt
    · rw [if_pos h3]; exact bad (fun h => by have := h.2.2.2.1; omega)
    rw [if_neg h3]
    by_cases h4 : tt > size
    · rw [if_pos h4]; exact bad (fun h => by have := h.2.2.2.2.1; omega)
    rw [if_neg h4]
    by_cases h5 : node < 0
    · rw [if_pos h5]; exact bad (fun h => by have := h.2.2.2.2.2.1; omega)
    rw [if_neg h5]
    by_cases h6 : node ≥ mn nodes 6
    · rw [if_pos h6]; exact bad (fun h => by have := h.2.2.2.2.2.2; omega)
    rw [if_neg h6]
    by_cases h1 : size > 10000
    · rw [decide_eq_true h1]; exact bad (fun h => by have := h.2.1; omega)
    rw [decide_eq_false h1, stratumref12_Split.j0, if_neg (by decide)]
    have hok : okS l size nodes fr tt node := ⟨hs, by omega, by omega, by omega, by omega, by omega, by omega⟩
    obtain ⟨n, hn⟩ : ∃ n : Nat, size = n := ⟨size.toNat, by omega⟩
    subst hn
    have hsnd := zI hs
    have h7 := pR a n fr tt node ((a + 1) % 4294967296) l hl (by omega) n k false (-1) 0 [] (by omega) (by omega) (by omega) (by simp)
    rw [h7, Bool.false_or, List.nil_append]
    have h8 := pU hsnd (by omega : 0 ≤ fr) (by omega : fr < tt) (by omega) (by omega : 0 ≤ node) (by omega) (by omega)
    have h9 := qU hsnd (by omega : 0 ≤ fr) (by omega : fr < tt) (by omega) (by omega : 0 ≤ node)
    unfold lS rEnd
    by_cases ho : oth l fr tt node 0 n = true
    · rw [if_pos ho, if_pos (show okS l n nodes fr tt node ∧ lH l fr tt ≠ [node] from ⟨hok, fun e => by rw [h8.1 e] at ho; cases ho⟩)]
      unfold xC
      rw [h9]
    · rw [if_neg ho, if_neg (fun hh : okS l n nodes fr tt node ∧ lH l fr tt ≠ [node] => hh.2 (h8.2 (by simpa using ho)))]
  · rw [if_neg hs]; exact bad (fun h => hs h.1)
end Go.Proofs.Ytbpdejbkfpkphaa.K
end

section
namespace Go.Proofs.Ytbpdejbkfpkphaa.K
open Go Go.RowKit Go.Proofs.YtbpdejbkfpkphaaW.PrintWords Go.Proofs.YtbpdejbkfpkphaaW.PrintLast Go.Proofs.YtbpdejbkfpkphaaW.PrintMore
theorem xR (xs : List TSp) : ∀ m, (glN xs m).length ≤ m
  | 0 => by simp [glN]
  | m + 1 => by
    have := xR xs m
    unfold glN
    split
    · omega
    · simp; omega
theorem uX (f : Int → Int) : ∀ (n : Nat) (v d : Int), Ris v (v + n) d (cn f d v n)
  | 0, _, _ => trivial
  | n + 1, v, d => by
    unfold cn
    have hs : ∀ d, Ris v (v + ((n + 1 : Nat) : Int)) d (cn f d (v + 1) n) := fun d => by
      have h := uX f n (v + 1) d
      rw [show v + 1 + (n : Int) = v + ((n + 1 : Nat) : Int) by omega] at h
      exact h.weak (fun x hx => by have := (h.lo x hx).1; omega)
    by_cases h : f v = d
    · rw [if_pos h]; exact hs d
    · rw [if_neg h]
      have h1 := uX f n (v + 1) (f v)
      rw [show v + 1 + (n : Int) = v + ((n + 1 : Nat) : Int) by omega] at h1
      exact ⟨Int.le_refl _, by show v < _; omega, h, h1⟩
theorem uU (f : Int → Int) : ∀ (n : Nat) (v d : Int) (x : TSp), x ∈ cn f d v n → v ≤ x.f0 ∧ x.f0 < v + n ∧ x.f1 = f x.f0
  | 0, _, _, _, h => by simp [cn] at h
  | n + 1, v, d, x, h => by
    unfold cn at h
    by_cases hd : f v = d
    · rw [if_pos hd] at h
      have := uU f n (v + 1) d x h
      omega
    · rw [if_neg hd] at h
      rcases List.mem_cons.1 h with rfl | h
      · exact ⟨Int.le_refl _, by show v < _; omega, rfl⟩
      · have := uU f n (v + 1) _ x h
        omega
/-- Where nodes turn is a sound map. -/
theorem zN (f : Int → Int) (n : Nat) (nodes : Int) (h0 : 0 < n) (hf : ∀ u, 0 ≤ u → u < (n : Int) → 0 ≤ f u ∧ f u < mn nodes 6) (hl : (cn f (-1) 0 n).length ≤ 40) : Snd (cn f (-1) 0 n) n nodes := by
  obtain ⟨n, rfl⟩ : ∃ m, n = m + 1 := ⟨n - 1, by omega⟩
  have h1 : cn f (-1) 0 (n + 1) = ⟨0, f 0⟩ :: cn f (f 0) (0 + 1) n := by
    have := hf 0 (by omega) (by omega)
    rw [cn, if_neg (by omega)]
  refine ⟨hl, by have := uX f (n + 1) 0 (-1); rwa [Int.zero_add] at this, fun x hx => ?_, by rw [h1]; simp, by rw [h1]; rfl⟩
  obtain ⟨a, b, c⟩ := uU f _ _ _ x hx
  rw [c]
  exact hf _ a (by omega)
/-- At first all are one node's. -/
theorem yE (n : Nat) (nodes : Int) (h0 : 0 < n) (h1 : 1 ≤ nodes) : Snd [(⟨0, 0⟩ : TSp)] n nodes := by
  refine ⟨by simp, ⟨Int.le_refl _, by show (0 : Int) < n; omega, by show (0 : Int) ≠ -1; omega, trivial⟩, fun x hx => ?_, by simp, rfl⟩
  simp at hx; subst hx
  refine ⟨Int.le_refl _, ?_⟩
  show (0 : Int) < mn nodes 6
  unfold mn; split <;> omega
/-- What a split makes of a sound map: it is refused and nothing; or it is the next one. -/
theorem pY {l : List TSp} {nodes fr tt node : Int} {n : Nat} (a : Int) (h : Snd l n nodes) (h0 : 0 ≤ fr) (h1 : fr < tt) (h2 : tt ≤ n) (h3 : 0 ≤ node) (h4 : node < mn nodes 6) (h5 : (n : Int) ≤ 10000) :
    (lS a l n nodes fr tt node = (0, [], 120) ∧ (∀ u, fr ≤ u → u < tt → jQ l u = node)) ∨
    ((∃ u, fr ≤ u ∧ u < tt ∧ jQ l u ≠ node) ∧
      ((lS a l n nodes fr tt node = (0, [], 3) ∧ 40 < (cn (mv l fr tt node) (-1) 0 n).length ∧ 39 ≤ l.length) ∨
       (lS a l n nodes fr tt node = ((a + 1) % 4294967296, cn (mv l fr tt node) (-1) 0 n, 0) ∧ Snd (cn (mv l fr tt node) (-1) 0 n) n nodes))) := by
  have h8 := pU h h0 h1 h2 h3 h4 h5
  have h9 := qU h h0 h1 h2 h3
  have hok : okS l n nodes fr tt node := ⟨zW h, h5, h0, h1, h2, h3, h4⟩
  by_cases ho : oth l fr tt node 0 n = true
  · right
    obtain ⟨u, _, _, k1, k2, k3⟩ := (nK l fr tt node n 0).1 ho
    refine ⟨⟨u, k1, k2, k3⟩, ?_⟩
    have hs : lS a l n nodes fr tt node = xC a (mQ l n tt (l.filter (fun x => decide (x.f0 < fr)) ++ [⟨fr, node⟩])) := by
      unfold lS
      rw [if_pos ⟨hok, fun e => by rw [h8.1 e] at ho; cases ho⟩]
    rw [hs]
    unfold xC
    rw [h9]
    by_cases hg : (((cn (mv l fr tt node) (-1) 0 n).length : Nat) : Int) > 40
    · rw [if_pos hg]
      refine .inl ⟨rfl, by omega, ?_⟩
      have hle : (cn (mv l fr tt node) (-1) 0 n).length ≤ (mQ l n tt (l.filter (fun x => decide (x.f0 < fr)) ++ [⟨fr, node⟩])).length := by rw [← h9]; exact xR _ _
      have hmid : (mQ l n tt (l.filter (fun x => decide (x.f0 < fr)) ++ [⟨fr, node⟩])).length ≤ l.length + 2 := by
        have ha := lJ fr h.ris.asc
        have hb : (l.filter (fun x => decide (x.f0 > tt))).length ≤ (l.filter (fun x => decide (fr ≤ x.f0))).length := by
          refine List.Sublist.length_le ?_
          have : l.filter (fun x => decide (x.f0 > tt)) = (l.filter (fun x => decide (fr ≤ x.f0))).filter (fun x => decide (x.f0 > tt)) := by
            rw [List.filter_filter]
            refine List.filter_congr (fun x _ => ?_)
            by_cases hx : x.f0 > tt
            · have : fr ≤ x.f0 := by omega
              simp [hx, this]
            · simp [hx]
          rw [this]
          exact List.filter_sublist
        have hc := congrArg List.length ha
        rw [List.length_append] at hc
        unfold mQ
        split <;> simp only [List.length_append, List.length_cons, List.length_nil] <;> omega
      omega
    · rw [if_neg hg]
      refine .inr ⟨rfl, zN _ n nodes (by omega) (fun u hu1 hu2 => ?_) (by omega)⟩
      unfold mv
      split
      · exact ⟨h3, h4⟩
      · exact h.find u hu1
  · left
    have ho' : oth l fr tt node 0 n = false := by simpa using ho
    refine ⟨by unfold lS; rw [if_neg (fun hh : okS l n nodes fr tt node ∧ lH l fr tt ≠ [node] => hh.2 (h8.2 ho'))], fun u k1 k2 => ?_⟩
    cases hd : decide (jQ l u = node)
    · have := (nK l fr tt node n 0).2 ⟨u, by omega, by omega, k1, k2, by simpa using hd⟩
      rw [ho'] at this; cases this
    · simpa using hd
end Go.Proofs.Ytbpdejbkfpkphaa.K
end

section
namespace Go.Proofs.Ytbpdejbkfpkphaa.K
open Go.RowKit Go.Proofs.YtbpdejbkfpkphaaW.PrintWords Go.Proofs.YtbpdejbkfpkphaaW.PrintLast Go.Proofs.YtbpdejbkfpkphaaW.PrintMore
attribute [local go_sem] jU jT jZ jY jO jP jW jV
def stratumref12_New.f  : Option (Int × (List (S60))) := some (1, (([(⟨0, 0⟩ : S60)] : List (S60))))
set_option maxHeartbeats 8000000 in
set_option maxRecDepth 100000 in
theorem stratumref12_New.calls  (r1 : Int) (r2 : List (S60)) (w : World) (h : stratumref12_New.f  = some (r1, r2)) :
    Calls Try.prog 61 #[] w fun e w' => ∃ v1_ : Value, e = .returned (.agg #[.int .u32 r1, v1_]) ∧ Kd.R k60 60 w' w.heap.size (fun _ => True) v1_ r2 ∧ Below w.heap.size w w' := by
  have hu42 := Try.underlying42
  have hu60 := Try.underlying60
  have HB := iC.mk (Below.refl w.heap.size w)
  have H : (some (1, (([(⟨0, 0⟩ : S60)] : List (S60))))) = some (r1, r2) := h
  clear h
  obtain ⟨y356, hy356⟩ : ∃ y_ : List (S60), y_ = (([(⟨0, 0⟩ : S60)] : List (S60))) := ⟨_, rfl⟩
  replace H : (some (1, y356)) = some (r1, r2) := by first | (rw [hy356]; with_reducible exact H) | (have H2_ := (Option.bind_some _ _).symm.trans H; rw [hy356]; with_reducible exact H2_) | (have H2_ := (Option.bind_some _ _).symm.trans H; with_reducible exact H2_) | with_reducible exact H | (rw [hy356]; exact H) | exact H
  have Ny356 := iC.mk hy356
  clear hy356
  simp only [Option.some.injEq, Prod.mk.injEq] at H
  obtain ⟨rfl, rfl⟩ := H
  go_enter Try.func61, Try.ntmps61
  go_wp2_with (first | ((with_reducible refine jC (N := 0) rfl ?_); refine jA ?hg (N := 0) ?hd (cs := #[.int .u32 0, .slice none 0 0]) (t := 42) ?hr ?_; (case hd => rfl); (case hg => rfl); (case hr => first | (go_simp; done) | (go_simp; rfl)); intro gb355 hg w1 hbox hb; have n0_ := iC.mk (iK hb_ hb); have n1_ := iC.mk (hbox); have n2_ := iC.mk ((by rw [hg]; exact (iJ hb_) : w.heap.size ≤ gb355)); have n3_ := iC.mk ((by rw [hg]; exact (iJ hb_) : w.heap.size ≤ gb355)); clear HB; have HB := n0_; have BK355 := n1_; have GW355 := n2_; have GE355 := n3_; clear n0_ n1_ n2_ n3_; clear hb hbox hg) | ((with_reducible refine jC (N := 2) rfl ?_); refine Kd.R_lit k60 _ 60 ?hg (N := 2) ?hd (xs := ([(⟨0, 0⟩ : S60)] : List (S60))) (inner := [.int .i64 0, .int .i64 0]) (ok := fun _ => True) (okp := fun _ => True) ?hr ?hp (fun _ hk => hk) trivial (Below.refl _ _) (Nat.le_refl _) (by simp) ?_; (case hd => rfl); (case hg => rfl); (case hr => first | (go_simp; done) | (go_simp; rfl)); (case hp => exact (Reps.c2 (show Kd.M k60 _ _ _ (⟨0, 0⟩ : S60) [.int .i64 0, .int .i64 0] from (kS _ _ _ (⟨0, 0⟩ : S60) )) (Reps.none _ _))); intro v357 w2 ho3 hb hg_ hnew_; clear hg_ hnew_; (first | rw [← Ny356.out] at ho3 | (simp only [Int.reduceToNat] at ho3; rw [← Ny356.out] at ho3)); have n0_ := iC.mk (Kd.R_lower ho3 (iJ (by repeat (first | (with_reducible first | exact HB.out | apply iF | apply iD | apply iG | refine iE ?_ GE355.out) | exact HB.out)))); have n1_ := iC.mk (iP (g := gb355) (o := .cells #[.int .u32 0, .slice none 0 0] 42 (0, 0)) (bk_ BK355.out) hb); have n2_ := iC.mk (iK (by repeat (first | (with_reducible first | exact HB.out | apply iF | apply iD | apply iG | refine iE ?_ GE355.out) | exact HB.out)) hb); clear BK355; clear HB; have HO358 := n0_; have BK355 := n1_; have HB := n2_; clear n0_ n1_ n2_; clear hb ho3; obtain ⟨Ao4, co4, eo4⟩ := Kd.R_slice HO358.out; subst eo4; have hcz5_0 : w2.cell? ⟨gb355, 0, none⟩ = some (.int .u32 0) := (iI BK355.out 0).trans rfl; have hcz5_1 : w2.cell? ⟨gb355, 1, none⟩ = some (.slice none 0 0) := (iI BK355.out 1).trans rfl; have hfz5_0 := iH BK355.out 0; have hfz5_1 := iH BK355.out 1))
  refine bodyPost_ret (results_cell_row rfl _ _ gb355 42 #[.int .u32 1, .slice Ao4 y356.length co4] (0, 0) _ rfl (by (with_reducible repeat (first | refine iM ?_ _ | refine iO ?_ | refine iL ?_ _)); refine jD (cs := #[.int .u32 1, .slice none 0 0]) ?_ 1 _ rfl; (with_reducible repeat (first | refine iM ?_ _ | refine iO ?_ | refine iL ?_ _)); refine jD (cs := #[.int .u32 0, .slice none 0 0]) ?_ 0 _ rfl; (with_reducible repeat (first | refine iM ?_ _ | refine iO ?_ | refine iL ?_ _)); exact BK355.out) Try.underlying42 rfl (by kernel_rfl)) rfl ?_
  exact ⟨_, by first | rfl | (simp [iR, iQ] <;> rfl) | (simp [*, iR, iQ] <;> rfl), by (with_reducible repeat (first | apply Kd.R_alloc | apply Kd.R_drewN | apply Kd.R_drew)); exact Kd.R_mono (Kd.R_far (p := ⟨gb355, 1, none⟩) (Kd.R_far (p := ⟨gb355, 0, none⟩) (Kd.R_types HO358.out BK355.out (by decide)) (fun _ hk => hk.2) (.int .u32 1)) (fun _ hk => hk.2) (.slice Ao4 y356.length co4)) (fun _ hk => trivial), by repeat (first | (with_reducible first | exact HB.out | apply iF | apply iD | apply iG | refine iE ?_ GE355.out) | exact HB.out)⟩
end Go.Proofs.Ytbpdejbkfpkphaa.K
end
