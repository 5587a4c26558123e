/- Parts of the proof, one behind the other: K5, SpX, SpZ, SpA, SpA2, SpO. -/
import Derived.Test.YtjppookmjdaplaaQCoordOnce4
set_option linter.unusedVariables false
set_option linter.unusedSimpArgs false
section
namespace Go.Proofs.Ytjppookmjdaplaa.K
open Go.RowKit Go.Proofs.YtjppookmjdaplaaW.PrintWords Go.Proofs.YtjppookmjdaplaaW.PrintLast Go.Proofs.YtjppookmjdaplaaW.PrintMore
attribute [local go_sem] jV kJ
mutual
def stratumref12_Split.j0 : Nat → Int → Int → Int → Int → Bool → Int → List (S96) → Option (Int × (List (S96)) × Int)
  | 0, _, _, _, _, _, _, _ => none
  | k + 1, x1, x3, x4, x5, x51, x118000, x118001 => if x51 = true then (some (0, ([] : List (S96)), 120)) else (stratumref12_Split.l0 k x1 x3 x4 x5 false (-1) 0 x118000 x118001 ((x118000 + 1) % 4294967296) ([] : List (S96)))
def stratumref12_Split.l0 : Nat → Int → Int → Int → Int → Bool → Int → Int → Int → List (S96) → Int → List (S96) → Option (Int × (List (S96)) × Int)
  | 0, _, _, _, _, _, _, _, _, _, _, _ => none
  | k + 1, x1, x3, x4, x5, x14, x16, x17, x118000, x118001, x121000, x121001 => if x17 < x1 then ((stratumref12_Find.f k x118000 x118001 x17).bind fun t121 => (if x17 ≥ x3 then (stratumref12_Split.j2 k x1 x3 x4 x5 x14 x16 x17 t121 (decide (x17 < x4)) x118000 x118001 x121000 x121001) else (stratumref12_Split.j2 k x1 x3 x4 x5 x14 x16 x17 t121 false x118000 x118001 x121000 x121001))) else (if x14 = true then (if (x121001.length : Int) > 40 then (some (0, ([] : List (S96)), 3)) else (some (x121000, x121001, 0))) else (some (0, ([] : List (S96)), 120)))
def stratumref12_Split.j2 : Nat → Int → Int → Int → Int → Bool → Int → Int → Int → Bool → Int → List (S96) → Int → List (S96) → Option (Int × (List (S96)) × Int)
  | 0, _, _, _, _, _, _, _, _, _, _, _, _, _ => none
  | k + 1, x1, x3, x4, x5, x14, x16, x17, x18, x72, x118000, x118001, x121000, x121001 => if x72 = true then (if x14 = true then (if x5 = x16 then (stratumref12_Split.l0 k x1 x3 x4 x5 true x16 (wrap64 (x17 + 1)) x118000 x118001 x121000 x121001) else (if x121001.length < 8796093022208 then (stratumref12_Split.l0 k x1 x3 x4 x5 true x5 (wrap64 (x17 + 1)) x118000 x118001 x121000 (x121001 ++ [(⟨x17, x5⟩ : S96)])) else (none))) else (if x5 = x16 then (stratumref12_Split.l0 k x1 x3 x4 x5 (x18 != x5) x16 (wrap64 (x17 + 1)) x118000 x118001 x121000 x121001) else (if x121001.length < 8796093022208 then (stratumref12_Split.l0 k x1 x3 x4 x5 (x18 != x5) x5 (wrap64 (x17 + 1)) x118000 x118001 x121000 (x121001 ++ [(⟨x17, x5⟩ : S96)])) else (none)))) else (if x18 = x16 then (stratumref12_Split.l0 k x1 x3 x4 x5 x14 x16 (wrap64 (x17 + 1)) x118000 x118001 x121000 x121001) else (if x121001.length < 8796093022208 then (stratumref12_Split.l0 k x1 x3 x4 x5 x14 x18 (wrap64 (x17 + 1)) x118000 x118001 x121000 (x121001 ++ [(⟨x17, x18⟩ : S96)])) else (none)))
end
def stratumref12_Split.f (k : Nat) (a0_0 : Int) (l0_1 : List (S96)) (a1 : Int) (a2 : Int) (a3 : Int) (a4 : Int) (a5 : Int) : Option (Int × (List (S96)) × Int) := (stratumref12_Sound.f k a0_0 l0_1 a1 a2).bind fun t119 => (if t119 = true then (if a3 < 0 then (stratumref12_Split.j0 k a1 a3 a4 a5 true a0_0 l0_1) else (if a3 ≥ a4 then (stratumref12_Split.j0 k a1 a3 a4 a5 true a0_0 l0_1) else (if a4 > a1 then (stratumref12_Split.j0 k a1 a3 a4 a5 true a0_0 l0_1) else (if a5 < 0 then (stratumref12_Split.j0 k a1 a3 a4 a5 true a0_0 l0_1) else (if a5 ≥ (mn a2 6) then (stratumref12_Split.j0 k a1 a3 a4 a5 true a0_0 l0_1) else (stratumref12_Split.j0 k a1 a3 a4 a5 (decide (a1 > 10000)) a0_0 l0_1)))))) else (stratumref12_Split.j0 k a1 a3 a4 a5 true a0_0 l0_1))
set_option maxHeartbeats 8000000 in
set_option maxRecDepth 100000 in
theorem stratumref12_Split.calls (k : Nat) (a0_0 : Int) (A0_1 : Option Addr) (c0_1 : Nat) (l0_1 : List (S96)) (a1 : Int) (a2 : Int) (a3 : Int) (a4 : Int) (a5 : Int) (r1 : Int) (r2 : List (S96)) (r3 : Int) (w : World) (hr0_1 : Kd.C k96 w A0_1 l0_1.length l0_1) (hc0_1 : l0_1.length ≤ c0_1) (h : stratumref12_Split.f k a0_0 l0_1 a1 a2 a3 a4 a5 = some (r1, r2, r3)) :
    Calls Try.prog 46 #[.agg #[.int .u32 a0_0, .slice A0_1 l0_1.length c0_1], .int .i64 a1, .int .i64 a2, .int .i64 a3, .int .i64 a4, .int .i64 a5] w fun e w' => ∃ v1_ : Value, e = .returned (.tuple #[.agg #[.int .u32 r1, v1_], .int .i64 r3]) ∧ Kd.R k96 96 w' w.heap.size (fun _ => True) v1_ r2 ∧ Below w.heap.size w w' := by
  have hu42 := Try.underlying42
  have hu96 := Try.underlying96
  have HR0_1 := iC.mk hr0_1
  have HC0_1 := iC.mk hc0_1
  clear hr0_1 hc0_1
  have HB := iC.mk (Below.refl w.heap.size w)
  have H : ((stratumref12_Sound.f k a0_0 l0_1 a1 a2).bind fun t119 => (if t119 = true then (if a3 < 0 then (stratumref12_Split.j0 k a1 a3 a4 a5 true a0_0 l0_1) else (if a3 ≥ a4 then (stratumref12_Split.j0 k a1 a3 a4 a5 true a0_0 l0_1) else (if a4 > a1 then (stratumref12_Split.j0 k a1 a3 a4 a5 true a0_0 l0_1) else (if a5 < 0 then (stratumref12_Split.j0 k a1 a3 a4 a5 true a0_0 l0_1) else (if a5 ≥ (mn a2 6) then (stratumref12_Split.j0 k a1 a3 a4 a5 true a0_0 l0_1) else (stratumref12_Split.j0 k a1 a3 a4 a5 (decide (a1 > 10000)) a0_0 l0_1)))))) else (stratumref12_Split.j0 k a1 a3 a4 a5 true a0_0 l0_1))) = some (r1, r2, r3) := h
  clear h
  have HC7 := iC.mk H
  clear H
  go_enter Try.func46, Try.ntmps46
  go_upto_region 1 with (first | ((with_reducible refine kL (N := 6) rfl ?_); (try (refine kK (by rfl) ?_; dsimp only)); refine kF ?hg (N := 6) ?hd (cs := #[.int .u32 a0_0, .slice A0_1 l0_1.length c0_1]) (t := 42) ?hr ?_; (case hd => rfl); (case hg => rfl); (case hr => first | (go_simp; done) | (go_simp; rfl)); intro gb117 hg w8 hbox hb; have n0_ := iC.mk (iQ hb_ hb); have n1_ := iC.mk (hbox); have n2_ := iC.mk ((by rw [hg]; exact (iW hb_) : w.heap.size ≤ gb117)); have n3_ := iC.mk ((by rw [hg]; exact (iW hb_) : w.heap.size ≤ gb117)); clear HB; have HB := n0_; have BK117 := n1_; have GW117 := n2_; have GE117 := n3_; clear n0_ n1_ n2_ n3_; clear hb hbox hg) | ((with_reducible refine kL (N := 12) rfl ?_); (try (refine kK (by rfl) ?_; dsimp only)); refine kF ?hg (N := 12) ?hd (cs := #[.int .u32 0, .slice none 0 0]) (t := 42) ?hr ?_; (case hd => rfl); (case hg => rfl); (case hr => first | (go_simp; done) | (go_simp; rfl)); intro gb118 hg w9 hbox hb; have n0_ := iC.mk (iY (g := gb117) (o := .cells #[.int .u32 a0_0, .slice A0_1 l0_1.length c0_1] 42 (0, 0)) (bk_ BK117.out) hb); have n1_ := iC.mk (iQ (by repeat (first | (with_reducible first | exact HB.out | apply iF | apply iG | apply iL | refine iH ?_ GE117.out) | exact HB.out)) hb); have n2_ := iC.mk (hbox); have n3_ := iC.mk ((by rw [hg]; exact (iW (by repeat (first | (with_reducible first | exact HB.out | apply iF | apply iG | apply iL | refine iH ?_ GE117.out) | exact HB.out))) : w.heap.size ≤ gb118)); have n4_ := iC.mk ((by rw [hg]; exact (iW (by repeat (first | (with_reducible first | exact HB.out | apply iF | apply iG | apply iL | refine iH ?_ GE117.out) | exact HB.out))) : w.heap.size ≤ gb118)); have n5_ := iC.mk ((by rw [hg]; exact Nat.ne_of_lt (jJ (g := gb117) (o := .cells #[.int .u32 a0_0, .slice A0_1 l0_1.length c0_1] 42 (0, 0)) (bk_ BK117.out)) : gb117 ≠ gb118)); have n6_ := iC.mk ((by rw [hg]; exact Nat.ne_of_gt (jJ (g := gb117) (o := .cells #[.int .u32 a0_0, .slice A0_1 l0_1.length c0_1] 42 (0, 0)) (bk_ BK117.out)) : gb118 ≠ gb117)); clear BK117; clear HB; have BK117 := n0_; have HB := n1_; have BK118 := n2_; have GW118 := n3_; have GE118 := n4_; have NB117_118 := n5_; have NB118_117 := n6_; clear n0_ n1_ n2_ n3_ n4_ n5_ n6_; clear hb hbox hg))
  (try simp only [Act.put, List.setIfInBounds_toArray, List.set_cons_zero, List.set_cons_succ])
  go_cut [51] (fun v51 wc => ∃ (kq : Nat) (x51_6 : Bool), v51 = .bool x51_6 ∧ iC (stratumref12_Split.j0 kq a1 a3 a4 a5 x51_6 a0_0 l0_1 = some (r1, r2, r3)) ∧ iC (kq ≤ k) ∧ iC (wc.heap[gb117]? = some (.cells #[.int .u32 a0_0, (.slice A0_1 l0_1.length c0_1)] 42 (0, 0))) ∧ iC (wc.heap[gb118]? = some (.cells #[.int .u32 0, (.slice none 0 0)] 42 (0, 0))) ∧ iC (Below w.heap.size w wc))
  case first =>
    have H := HC7.out
    clear HC7
    replace H := Option.bind_eq_some_iff.mp H
    obtain ⟨t119, A100, H⟩ := H
    replace H : (if t119 = true then (if a3 < 0 then (stratumref12_Split.j0 k a1 a3 a4 a5 true a0_0 l0_1) else (if a3 ≥ a4 then (stratumref12_Split.j0 k a1 a3 a4 a5 true a0_0 l0_1) else (if a4 > a1 then (stratumref12_Split.j0 k a1 a3 a4 a5 true a0_0 l0_1) else (if a5 < 0 then (stratumref12_Split.j0 k a1 a3 a4 a5 true a0_0 l0_1) else (if a5 ≥ (mn a2 6) then (stratumref12_Split.j0 k a1 a3 a4 a5 true a0_0 l0_1) else (stratumref12_Split.j0 k a1 a3 a4 a5 (decide (a1 > 10000)) a0_0 l0_1)))))) else (stratumref12_Split.j0 k a1 a3 a4 a5 true a0_0 l0_1)) = some (r1, r2, r3) := H
    have A10 := iC.mk A100
    clear A100
    by_cases c11 : t119 = true
    · subst c11
      have H1 : (if a3 < 0 then (stratumref12_Split.j0 k a1 a3 a4 a5 true a0_0 l0_1) else (if a3 ≥ a4 then (stratumref12_Split.j0 k a1 a3 a4 a5 true a0_0 l0_1) else (if a4 > a1 then (stratumref12_Split.j0 k a1 a3 a4 a5 true a0_0 l0_1) else (if a5 < 0 then (stratumref12_Split.j0 k a1 a3 a4 a5 true a0_0 l0_1) else (if a5 ≥ (mn a2 6) then (stratumref12_Split.j0 k a1 a3 a4 a5 true a0_0 l0_1) else (stratumref12_Split.j0 k a1 a3 a4 a5 (decide (a1 > 10000)) a0_0 l0_1)))))) = some (r1, r2, r3) := by rw [if_pos rfl] at H; exact H
      clear H
      have H := H1
      clear H1
      by_cases c12 : a3 < 0
      · rw [if_pos c12] at H
        have c12b0 : decide (a3 < 0) = true := decide_eq_true c12
        clear c12
        (first | rw [c12b0] | (simp only [iJ, iK]; rw [c12b0]) | skip)
        have H' := iC.mk H
        clear H
        have hnb13 := NB117_118.out
        have hnc13 := NB118_117.out
        have hcz14_0 : w9.cell? ⟨gb117, 0, none⟩ = some (.int .u32 a0_0) := (iD BK117.out 0).trans rfl
        have hcz14_1 : w9.cell? ⟨gb117, 1, none⟩ = some (.slice A0_1 l0_1.length c0_1) := (iD BK117.out 1).trans rfl
        have hfz14_0 := iE BK117.out 0
        have hfz14_1 := iE BK117.out 1
        go_wp2_with (first | ((with_reducible refine jY (f := 69) rfl ?_); refine nV (some 22) rfl rfl Try.func69 (by kernel_rfl) rfl #[.agg #[.int .u32 a0_0, .slice A0_1 l0_1.length c0_1], .int .i64 a1, .int .i64 a2] rfl (by (try simp only [List.map_toArray, List.map_cons, List.map_nil]); first | done | rfl | (simp only [List.length_drop, List.length_take]; rfl)) ?_; (with_reducible refine (stratumref12_Sound.calls k a0_0 _ _ l0_1 a1 a2 true _ ?side1 ?side2 A10.out).mono ?_); (case side1 => repeat (first | exact (Kd.C_below HR0_1.out HB.out) | (with_reducible refine Kd.C_alloc ?_ _) | (with_reducible refine Kd.C_drewN ?_ _) | (with_reducible refine Kd.C_drew ?_))); (case side2 => exact HC0_1.out); rintro e w15 ⟨rfl, hb⟩; refine ⟨_, rfl, ?_⟩; have n0_ := iC.mk (iY (g := gb117) (o := .cells #[.int .u32 a0_0, .slice A0_1 l0_1.length c0_1] 42 (0, 0)) (bk_ BK117.out) hb); have n1_ := iC.mk (iY (g := gb118) (o := .cells #[.int .u32 0, .slice none 0 0] 42 (0, 0)) (bk_ BK118.out) hb); have n2_ := iC.mk (iQ (by repeat (first | (with_reducible first | exact HB.out | apply iF | apply iG | apply iL | refine iH ?_ GE117.out | refine iH ?_ GE118.out) | exact HB.out)) hb); clear BK117; clear BK118; clear HB; have BK117 := n0_; have BK118 := n1_; have HB := n2_; clear n0_ n1_ n2_; (try clear hb); (try clear hb2); (try clear hk); (try clear hi)))
        go_meet
        case rel => exact ⟨_, (true), (by first | rfl | (simp; done) | (simp [*]; done)), H', ⟨by first | omega | exact Nat.le_refl _⟩, ⟨bk_ BK117.out⟩, ⟨bk_ BK118.out⟩, ⟨by repeat (first | (with_reducible first | exact HB.out | apply iF | apply iG | apply iL | refine iH ?_ GE117.out | refine iH ?_ GE118.out) | exact HB.out)⟩⟩
      · rw [if_neg c12] at H
        have c12b0 : decide (a3 < 0) = false := decide_eq_false c12
        clear c12
        (first | rw [c12b0] | (simp only [iJ, iK]; rw [c12b0]) | skip)
        by_cases c16 : a3 ≥ a4
        · rw [if_pos c16] at H
          have c16b0 : decide (a4 ≤ a3) = true := decide_eq_true c16
          clear c16
          have H' := iC.mk H
          clear H
          have hnb17 := NB117_118.out
          have hnc17 := NB118_117.out
          have hcz18_0 : w9.cell? ⟨gb117, 0, none⟩ = some (.int .u32 a0_0) := (iD BK117.out 0).trans rfl
          have hcz18_1 : w9.cell? ⟨gb117, 1, none⟩ = some (.slice A0_1 l0_1.length c0_1) := (iD BK117.out 1).trans rfl
          have hfz18_0 := iE BK117.out 0
          have hfz18_1 := iE BK117.out 1
          go_wp2_with (first | ((with_reducible refine jY (f := 69) rfl ?_); refine nV (some 22) rfl rfl Try.func69 (by kernel_rfl) rfl #[.agg #[.int .u32 a0_0, .slice A0_1 l0_1.length c0_1], .int .i64 a1, .int .i64 a2] rfl (by (try simp only [List.map_toArray, List.map_cons, List.map_nil]); first | done | rfl | (simp only [List.length_drop, List.length_take]; rfl)) ?_; (with_reducible refine (stratumref12_Sound.calls k a0_0 _ _ l0_1 a1 a2 true _ ?side1 ?side2 A10.out).mono ?_); (case side1 => repeat (first | exact (Kd.C_below HR0_1.out HB.out) | (with_reducible refine Kd.C_alloc ?_ _) | (with_reducible refine Kd.C_drewN ?_ _) | (with_reducible refine Kd.C_drew ?_))); (case side2 => exact HC0_1.out); rintro e w19 ⟨rfl, hb⟩; refine ⟨_, rfl, ?_⟩; have n0_ := iC.mk (iY (g := gb117) (o := .cells #[.int .u32 a0_0, .slice A0_1 l0_1.length c0_1] 42 (0, 0)) (bk_ BK117.out) hb); have n1_ := iC.mk (iY (g := gb118) (o := .cells #[.int .u32 0, .slice none 0 0] 42 (0, 0)) (bk_ BK118.out) hb); have n2_ := iC.mk (iQ (by repeat (first | (with_reducible first | exact HB.out | apply iF | apply iG | apply iL | refine iH ?_ GE117.out | refine iH ?_ GE118.out) | exact HB.out)) hb); clear BK117; clear BK118; clear HB; have BK117 := n0_; have BK118 := n1_; have HB := n2_; clear n0_ n1_ n2_; (try clear hb); (try clear hb2); (try clear hk); (try clear hi)))
          go_meet
          case rel => exact ⟨_, (true), (by first | rfl | (simp; done) | (simp [*]; done)), H', ⟨by first | omega | exact Nat.le_refl _⟩, ⟨bk_ BK117.out⟩, ⟨bk_ BK118.out⟩, ⟨by repeat (first | (with_reducible first | exact HB.out | apply iF | apply iG | apply iL | refine iH ?_ GE117.out | refine iH ?_ GE118.out) | exact HB.out)⟩⟩
        · rw [if_neg c16] at H
          have c16b0 : decide (a4 ≤ a3) = false := decide_eq_false c16
          clear c16
          by_cases c20 : a4 > a1
          · rw [if_pos c20] at H
            have c20b0 : decide (a1 < a4) = true := decide_eq_true c20
            clear c20
            have H' := iC.mk H
            clear H
            have hnb21 := NB117_118.out
            have hnc21 := NB118_117.out
            have hcz22_0 : w9.cell? ⟨gb117, 0, none⟩ = some (.int .u32 a0_0) := (iD BK117.out 0).trans rfl
            have hcz22_1 : w9.cell? ⟨gb117, 1, none⟩ = some (.slice A0_1 l0_1.length c0_1) := (iD BK117.out 1).trans rfl
            have hfz22_0 := iE BK117.out 0
            have hfz22_1 := iE BK117.out 1
            go_wp2_with (first | ((with_reducible refine jY (f := 69) rfl ?_); refine nV (some 22) rfl rfl Try.func69 (by kernel_rfl) rfl #[.agg #[.int .u32 a0_0, .slice A0_1 l0_1.length c0_1], .int .i64 a1, .int .i64 a2] rfl (by (try simp only [List.map_toArray, List.map_cons, List.map_nil]); first | done | rfl | (simp only [List.length_drop, List.length_take]; rfl)) ?_; (with_reducible refine (stratumref12_Sound.calls k a0_0 _ _ l0_1 a1 a2 true _ ?side1 ?side2 A10.out).mono ?_); (case side1 => repeat (first | exact (Kd.C_below HR0_1.out HB.out) | (with_reducible refine Kd.C_alloc ?_ _) | (with_reducible refine Kd.C_drewN ?_ _) | (with_reducible refine Kd.C_drew ?_))); (case side2 => exact HC0_1.out); rintro e w23 ⟨rfl, hb⟩; refine ⟨_, rfl, ?_⟩; have n0_ := iC.mk (iY (g := gb117) (o := .cells #[.int .u32 a0_0, .slice A0_1 l0_1.length c0_1] 42 (0, 0)) (bk_ BK117.out) hb); have n1_ := iC.mk (iY (g := gb118) (o := .cells #[.int .u32 0, .slice none 0 0] 42 (0, 0)) (bk_ BK118.out) hb); have n2_ := iC.mk (iQ (by repeat (first | (with_reducible first | exact HB.out | apply iF | apply iG | apply iL | refine iH ?_ GE117.out | refine iH ?_ GE118.out) | exact HB.out)) hb); clear BK117; clear BK118; clear HB; have BK117 := n0_; have BK118 := n1_; have HB := n2_; clear n0_ n1_ n2_; (try clear hb); (try clear hb2); (try clear hk); (try clear hi)))
            go_meet
            case rel => exact ⟨_, (true), (by first | rfl | (simp; done) | (simp [*]; done)), H', ⟨by first | omega | exact Nat.le_refl _⟩, ⟨bk_ BK117.out⟩, ⟨bk_ BK118.out⟩, ⟨by repeat (first | (with_reducible first | exact HB.out | apply iF | apply iG | apply iL | refine iH ?_ GE117.out | refine iH ?_ GE118.out) | exact HB.out)⟩⟩
          · rw [if_neg c20] at H
            have c20b0 : decide (a1 < a4) = false := decide_eq_false c20
            clear c20
            by_cases c24 : a5 < 0
            · rw [if_pos c24] at H
              have c24b0 : decide (a5 < 0) = true := decide_eq_true c24
              clear c24
              have H' := iC.mk H
              clear H
              have hnb25 := NB117_118.out
              have hnc25 := NB118_117.out
              have hcz26_0 : w9.cell? ⟨gb117, 0, none⟩ = some (.int .u32 a0_0) := (iD BK117.out 0).trans rfl
              have hcz26_1 : w9.cell? ⟨gb117, 1, none⟩ = some (.slice A0_1 l0_1.length c0_1) := (iD BK117.out 1).trans rfl
              have hfz26_0 := iE BK117.out 0
              have hfz26_1 := iE BK117.out 1
              go_wp2_with (first | ((with_reducible refine jY (f := 69) rfl ?_); refine nV (some 22) rfl rfl Try.func69 (by kernel_rfl) rfl #[.agg #[.int .u32 a0_0, .slice A0_1 l0_1.length c0_1], .int .i64 a1, .int .i64 a2] rfl (by (try simp only [List.map_toArray, List.map_cons, List.map_nil]); first | done | rfl | (simp only [List.length_drop, List.length_take]; rfl)) ?_; (with_reducible refine (stratumref12_Sound.calls k a0_0 _ _ l0_1 a1 a2 true _ ?side1 ?side2 A10.out).mono ?_); (case side1 => repeat (first | exact (Kd.C_below HR0_1.out HB.out) | (with_reducible refine Kd.C_alloc ?_ _) | (with_reducible refine Kd.C_drewN ?_ _) | (with_reducible refine Kd.C_drew ?_))); (case side2 => exact HC0_1.out); rintro e w27 ⟨rfl, hb⟩; refine ⟨_, rfl, ?_⟩; have n0_ := iC.mk (iY (g := gb117) (o := .cells #[.int .u32 a0_0, .slice A0_1 l0_1.length c0_1] 42 (0, 0)) (bk_ BK117.out) hb); have n1_ := iC.mk (iY (g := gb118) (o := .cells #[.int .u32 0, .slice none 0 0] 42 (0, 0)) (bk_ BK118.out) hb); have n2_ := iC.mk (iQ (by repeat (first | (with_reducible first | exact HB.out | apply iF | apply iG | apply iL | refine iH ?_ GE117.out | refine iH ?_ GE118.out) | exact HB.out)) hb); clear BK117; clear BK118; clear HB; have BK117 := n0_; have BK118 := n1_; have HB := n2_; clear n0_ n1_ n2_; (try clear hb); (try clear hb2); (try clear hk); (try clear hi)))
              go_meet
              case rel => exact ⟨_, (true), (by first | rfl | (simp; done) | (simp [*]; done)), H', ⟨by first | omega | exact Nat.le_refl _⟩, ⟨bk_ BK117.out⟩, ⟨bk_ BK118.out⟩, ⟨by repeat (first | (with_reducible first | exact HB.out | apply iF | apply iG | apply iL | refine iH ?_ GE117.out | refine iH ?_ GE118.out) | exact HB.out)⟩⟩
            · rw [if_neg c24] at H
              have c24b0 : decide (a5 < 0) = false := decide_eq_false c24
              clear c24
              obtain ⟨ji28, hji28⟩ : ∃ j_ : Int, (mn a2 6) = j_ := ⟨_, rfl⟩
              replace H : (if a5 ≥ (ji28) then (stratumref12_Split.j0 k a1 a3 a4 a5 true a0_0 l0_1) else (stratumref12_Split.j0 k a1 a3 a4 a5 (decide (a1 > 10000)) a0_0 l0_1)) = some (r1, r2, r3) := by first | (rw [hji28] at H; exact H) | (simp only [hji28] at H ⊢; exact H)
              (try rw [hji28] at A10)
              (try (have hji28h : ji28 ≤ 6 := by (rw [← hji28]; unfold mn; (repeat' split) <;> omega)))
              (try (have hji28g : ji28 ≤ 64 := by omega))
              have hji28_ : (if 6 < a2 then 6 else a2) = ji28 := hji28
              by_cases c29 : a5 ≥ (ji28)
              · rw [if_pos c29] at H
                have c29b0 : decide ((ji28) ≤ a5) = true := decide_eq_true c29
                clear c29
                have H' := iC.mk H
                clear H
                have hnb30 := NB117_118.out
                have hnc30 := NB118_117.out
                have hcz31_0 : w9.cell? ⟨gb117, 0, none⟩ = some (.int .u32 a0_0) := (iD BK117.out 0).trans rfl
                have hcz31_1 : w9.cell? ⟨gb117, 1, none⟩ = some (.slice A0_1 l0_1.length c0_1) := (iD BK117.out 1).trans rfl
                have hfz31_0 := iE BK117.out 0
                have hfz31_1 := iE BK117.out 1
                go_wp2_with (first | ((with_reducible refine jY (f := 69) rfl ?_); refine nV (some 22) rfl rfl Try.func69 (by kernel_rfl) rfl #[.agg #[.int .u32 a0_0, .slice A0_1 l0_1.length c0_1], .int .i64 a1, .int .i64 a2] rfl (by (try simp only [List.map_toArray, List.map_cons, List.map_nil]); first | done | rfl | (simp only [List.length_drop, List.length_take]; rfl)) ?_; (with_reducible refine (stratumref12_Sound.calls k a0_0 _ _ l0_1 a1 a2 true _ ?side1 ?side2 A10.out).mono ?_); (case side1 => repeat (first | exact (Kd.C_below HR0_1.out HB.out) | (with_reducible refine Kd.C_alloc ?_ _) | (with_reducible refine Kd.C_drewN ?_ _) | (with_reducible refine Kd.C_drew ?_))); (case side2 => exact HC0_1.out); rintro e w32 ⟨rfl, hb⟩; refine ⟨_, rfl, ?_⟩; have n0_ := iC.mk (iY (g := gb117) (o := .cells #[.int .u32 a0_0, .slice A0_1 l0_1.length c0_1] 42 (0, 0)) (bk_ BK117.out) hb); have n1_ := iC.mk (iY (g := gb118) (o := .cells #[.int .u32 0, .slice none 0 0] 42 (0, 0)) (bk_ BK118.out) hb); have n2_ := iC.mk (iQ (by repeat (first | (with_reducible first | exact HB.out | apply iF | apply iG | apply iL | refine iH ?_ GE117.out | refine iH ?_ GE118.out) | exact HB.out)) hb); clear BK117; clear BK118; clear HB; have BK117 := n0_; have BK118 := n1_; have HB := n2_; clear n0_ n1_ n2_; (try clear hb); (try clear hb2); (try clear hk); (try clear hi)))
                go_meet
                case rel => exact ⟨_, (true), (by first | rfl | (simp; done) | (simp [*]; done)), H', ⟨by first | omega | exact Nat.le_refl _⟩, ⟨bk_ BK117.out⟩, ⟨bk_ BK118.out⟩, ⟨by repeat (first | (with_reducible first | exact HB.out | apply iF | apply iG | apply iL | refine iH ?_ GE117.out | refine iH ?_ GE118.out) | exact HB.out)⟩⟩
              · rw [if_neg c29] at H
                have c29b0 : decide ((ji28) ≤ a5) = false := decide_eq_false c29
                clear c29
                have H' := iC.mk H
                clear H
                have hnb33 := NB117_118.out
                have hnc33 := NB118_117.out
                have hcz34_0 : w9.cell? ⟨gb117, 0, none⟩ = some (.int .u32 a0_0) := (iD BK117.out 0).trans rfl
                have hcz34_1 : w9.cell? ⟨gb117, 1, none⟩ = some (.slice A0_1 l0_1.length c0_1) := (iD BK117.out 1).trans rfl
                have hfz34_0 := iE BK117.out 0
                have hfz34_1 := iE BK117.out 1
                go_wp2_with (first | ((with_reducible refine jY (f := 69) rfl ?_); refine nV (some 22) rfl rfl Try.func69 (by kernel_rfl) rfl #[.agg #[.int .u32 a0_0, .slice A0_1 l0_1.length c0_1], .int .i64 a1, .int .i64 a2] rfl (by (try simp only [List.map_toArray, List.map_cons, List.map_nil]); first | done | rfl | (simp only [List.length_drop, List.length_take]; rfl)) ?_; (with_reducible refine (stratumref12_Sound.calls k a0_0 _ _ l0_1 a1 a2 true _ ?side1 ?side2 A10.out).mono ?_); (case side1 => repeat (first | exact (Kd.C_below HR0_1.out HB.out) | (with_reducible refine Kd.C_alloc ?_ _) | (with_reducible refine Kd.C_drewN ?_ _) | (with_reducible refine Kd.C_drew ?_))); (case side2 => exact HC0_1.out); rintro e w35 ⟨rfl, hb⟩; refine ⟨_, rfl, ?_⟩; have n0_ := iC.mk (iY (g := gb117) (o := .cells #[.int .u32 a0_0, .slice A0_1 l0_1.length c0_1] 42 (0, 0)) (bk_ BK117.out) hb); have n1_ := iC.mk (iY (g := gb118) (o := .cells #[.int .u32 0, .slice none 0 0] 42 (0, 0)) (bk_ BK118.out) hb); have n2_ := iC.mk (iQ (by repeat (first | (with_reducible first | exact HB.out | apply iF | apply iG | apply iL | refine iH ?_ GE117.out | refine iH ?_ GE118.out) | exact HB.out)) hb); clear BK117; clear BK118; clear HB; have BK117 := n0_; have BK118 := n1_; have HB := n2_; clear n0_ n1_ n2_; (try clear hb); (try clear hb2); (try clear hk); (try clear hi)))
                go_meet
                case rel => exact ⟨_, (decide (a1 > 10000)), (by first | rfl | (simp; done) | (simp [*]; done)), H', ⟨by first | omega | exact Nat.le_refl _⟩, ⟨bk_ BK117.out⟩, ⟨bk_ BK118.out⟩, ⟨by repeat (first | (with_reducible first | exact HB.out | apply iF | apply iG | apply iL | refine iH ?_ GE117.out | refine iH ?_ GE118.out) | exact HB.out)⟩⟩
    · replace c11 := Bool.eq_false_iff.mpr c11
      subst c11
      have H1 : (stratumref12_Split.j0 k a1 a3 a4 a5 true a0_0 l0_1) = some (r1, r2, r3) := by rw [if_neg (show ¬ (false = true) by decide)] at H; exact H
      clear H
      have H := H1
      clear H1
      have H' := iC.mk H
      clear H
      have hnb36 := NB117_118.out
      have hnc36 := NB118_117.out
      have hcz37_0 : w9.cell? ⟨gb117, 0, none⟩ = some (.int .u32 a0_0) := (iD BK117.out 0).trans rfl
      have hcz37_1 : w9.cell? ⟨gb117, 1, none⟩ = some (.slice A0_1 l0_1.length c0_1) := (iD BK117.out 1).trans rfl
      have hfz37_0 := iE BK117.out 0
      have hfz37_1 := iE BK117.out 1
      go_wp2_with (first | ((with_reducible refine jY (f := 69) rfl ?_); refine nV (some 22) rfl rfl Try.func69 (by kernel_rfl) rfl #[.agg #[.int .u32 a0_0, .slice A0_1 l0_1.length c0_1], .int .i64 a1, .int .i64 a2] rfl (by (try simp only [List.map_toArray, List.map_cons, List.map_nil]); first | done | rfl | (simp only [List.length_drop, List.length_take]; rfl)) ?_; (with_reducible refine (stratumref12_Sound.calls k a0_0 _ _ l0_1 a1 a2 false _ ?side1 ?side2 A10.out).mono ?_); (case side1 => repeat (first | exact (Kd.C_below HR0_1.out HB.out) | (with_reducible refine Kd.C_alloc ?_ _) | (with_reducible refine Kd.C_drewN ?_ _) | (with_reducible refine Kd.C_drew ?_))); (case side2 => exact HC0_1.out); rintro e w38 ⟨rfl, hb⟩; refine ⟨_, rfl, ?_⟩; have n0_ := iC.mk (iY (g := gb117) (o := .cells #[.int .u32 a0_0, .slice A0_1 l0_1.length c0_1] 42 (0, 0)) (bk_ BK117.out) hb); have n1_ := iC.mk (iY (g := gb118) (o := .cells #[.int .u32 0, .slice none 0 0] 42 (0, 0)) (bk_ BK118.out) hb); have n2_ := iC.mk (iQ (by repeat (first | (with_reducible first | exact HB.out | apply iF | apply iG | apply iL | refine iH ?_ GE117.out | refine iH ?_ GE118.out) | exact HB.out)) hb); clear BK117; clear BK118; clear HB; have BK117 := n0_; have BK118 := n1_; have HB := n2_; clear n0_ n1_ n2_; (try clear hb); (try clear hb2); (try clear hk); (try clear hi)))
      go_meet
      case rel => exact ⟨_, (true), (by first | rfl | (simp; done) | (simp [*]; done)), H', ⟨by first | omega | exact Nat.le_refl _⟩, ⟨bk_ BK117.out⟩, ⟨bk_ BK118.out⟩, ⟨by repeat (first | (with_reducible first | exact HB.out | apply iF | apply iG | apply iL | refine iH ?_ GE117.out | refine iH ?_ GE118.out) | exact HB.out)⟩⟩
  case rest =>
    clear HC7
    try clear c1
    try clear c2
    try clear p2
    try clear c3
    try clear c4
    try clear c6
    try clear c11
    try clear c12
    try clear c12b0
    try clear c13
    try clear c16
    try clear c16b0
    try clear c17
    try clear c20
    try clear c20b0
    try clear c21
    try clear c24
    try clear c24b0
    try clear c25
    try clear c29
    try clear c29b0
    try clear c30
    try clear c33
    try clear c36
    try clear hcz14_0
    try clear hcz14_1
    try clear hcz18_0
    try clear hcz18_1
    try clear hcz22_0
    try clear hcz22_1
    try clear hcz26_0
    try clear hcz26_1
    try clear hcz31_0
    try clear hcz31_1
    try clear hcz34_0
    try clear hcz34_1
    try clear hcz37_0
    try clear hcz37_1
    try clear hfz14_0
    try clear hfz14_1
    try clear hfz18_0
    try clear hfz18_1
    try clear hfz22_0
    try clear hfz22_1
    try clear hfz26_0
    try clear hfz26_1
    try clear hfz31_0
    try clear hfz31_1
    try clear hfz34_0
    try clear hfz34_1
    try clear hfz37_0
    try clear hfz37_1
    obtain ⟨kq, x51_6, rfl, HA, HJ6, BK117, BK118, HB⟩ := hcut
    cases kq with
    | zero => exact absurd HA.out (by simp [stratumref12_Split.j0])
    | succ kj6 =>
      have H := HA.out
      clear HA
      simp only [stratumref12_Split.j0] at H
      by_cases c39 : x51_6 = true
      · subst c39
        have H1 : (some (0, ([] : List (S96)), 120)) = some (r1, r2, r3) := by rw [if_pos rfl] at H; exact H
        clear H
        have H := H1
        clear H1
        simp only [Option.some.injEq, Prod.mk.injEq] at H
        obtain ⟨rfl, rfl, rfl⟩ := H
        have hnb40 := NB118_117.out
        have hnc40 := NB117_118.out
        have hcz41_0 : wc.cell? ⟨gb118, 0, none⟩ = some (.int .u32 0) := (iD BK118.out 0).trans rfl
        have hcz41_1 : wc.cell? ⟨gb118, 1, none⟩ = some (.slice none 0 0) := (iD BK118.out 1).trans rfl
        have hfz41_0 := iE BK118.out 0
        have hfz41_1 := iE BK118.out 1
        go_wp2
        refine bodyPost_ret (mJ rfl _ _ gb118 42 #[.int .u32 0, .slice none 0 0] (0, 0) _ rfl (by (with_reducible repeat (first | refine iR ?_ _ | refine iU ?_ | refine iO ?_ _)); refine iZ (cs := #[.int .u32 0, .slice none 0 0]) ?_ 1 _ rfl; (with_reducible repeat (first | refine iR ?_ _ | refine iU ?_ | refine iO ?_ _)); refine iZ (cs := #[.int .u32 0, .slice none 0 0]) ?_ 0 _ rfl; (with_reducible repeat (first | refine iR ?_ _ | refine iU ?_ | refine iO ?_ _)); exact BK118.out) Try.underlying42 rfl (by kernel_rfl)) rfl ?_
        exact ⟨_, by first | rfl | (simp [jF, jG] <;> rfl) | (simp [*, jF, jG] <;> rfl), by first | exact Kd.R_nil _ _ _ _ _ | exact Kd.N_nil _ _ _ _ _ | exact Kd.V_nil _ _ _ _ _ | exact Kd.Q_nil _ _ _ _ _ | exact Kd.S_nil _ _ _ _ _, by repeat (first | (with_reducible first | exact HB.out | apply iF | apply iG | apply iL | refine iH ?_ GE117.out | refine iH ?_ GE118.out) | exact HB.out)⟩
      · replace c39 := Bool.eq_false_iff.mpr c39
        subst c39
        have H1 : (stratumref12_Split.l0 kj6 a1 a3 a4 a5 false (-1) 0 a0_0 l0_1 ((a0_0 + 1) % 4294967296) ([] : List (S96))) = some (r1, r2, r3) := by rw [if_neg (show ¬ (false = true) by decide)] at H; exact H
        clear H
        have H := H1
        clear H1
        have H' := iC.mk H
        clear H
        have hnb42 := NB117_118.out
        have hnc42 := NB118_117.out
        have hcz43_0 : wc.cell? ⟨gb117, 0, none⟩ = some (.int .u32 a0_0) := (iD BK117.out 0).trans rfl
        have hcz43_1 : wc.cell? ⟨gb117, 1, none⟩ = some (.slice A0_1 l0_1.length c0_1) := (iD BK117.out 1).trans rfl
        have hfz43_0 := iE BK117.out 0
        have hfz43_1 := iE BK117.out 1
        go_wp2_with (first | ((with_reducible refine kL (N := 15) rfl ?_); (try (refine kK (by rfl) ?_; dsimp only)); refine kF ?hg (N := 15) ?hd (cs := #[.int .u32 0, .slice none 0 0]) (t := 42) ?hr ?_; (case hd => rfl); (case hg => rfl); (case hr => first | (go_simp; done) | (go_simp; rfl)); intro gb120 hg w44 hbox hb; have n0_ := iC.mk (iY (g := gb117) (o := .cells #[.int .u32 a0_0, .slice A0_1 l0_1.length c0_1] 42 (0, 0)) (bk_ BK117.out) hb); have n1_ := iC.mk (iY (g := gb118) (o := .cells #[.int .u32 0, .slice none 0 0] 42 (0, 0)) (bk_ BK118.out) hb); have n2_ := iC.mk (iQ (by repeat (first | (with_reducible first | exact HB.out | apply iF | apply iG | apply iL | refine iH ?_ GE117.out | refine iH ?_ GE118.out) | exact HB.out)) hb); have n3_ := iC.mk (hbox); have n4_ := iC.mk ((by rw [hg]; exact (iW (by repeat (first | (with_reducible first | exact HB.out | apply iF | apply iG | apply iL | refine iH ?_ GE117.out | refine iH ?_ GE118.out) | exact HB.out))) : w.heap.size ≤ gb120)); have n5_ := iC.mk ((by rw [hg]; exact (iW (by repeat (first | (with_reducible first | exact HB.out | apply iF | apply iG | apply iL | refine iH ?_ GE117.out | refine iH ?_ GE118.out) | exact HB.out))) : w.heap.size ≤ gb120)); have n6_ := iC.mk ((by rw [hg]; exact Nat.ne_of_lt (jJ (g := gb117) (o := .cells #[.int .u32 a0_0, .slice A0_1 l0_1.length c0_1] 42 (0, 0)) (bk_ BK117.out)) : gb117 ≠ gb120)); have n7_ := iC.mk ((by rw [hg]; exact Nat.ne_of_gt (jJ (g := gb117) (o := .cells #[.int .u32 a0_0, .slice A0_1 l0_1.length c0_1] 42 (0, 0)) (bk_ BK117.out)) : gb120 ≠ gb117)); have n8_ := iC.mk ((by rw [hg]; exact Nat.ne_of_lt (jJ (g := gb118) (o := .cells #[.int .u32 0, .slice none 0 0] 42 (0, 0)) (bk_ BK118.out)) : gb118 ≠ gb120)); have n9_ := iC.mk ((by rw [hg]; exact Nat.ne_of_gt (jJ (g := gb118) (o := .cells #[.int .u32 0, .slice none 0 0] 42 (0, 0)) (bk_ BK118.out)) : gb120 ≠ gb118)); clear BK117; clear BK118; clear HB; have BK117 := n0_; have BK118 := n1_; have HB := n2_; have BK120 := n3_; have GW120 := n4_; have GE120 := n5_; have NB117_120 := n6_; have NB120_117 := n7_; have NB118_120 := n8_; have NB120_118 := n9_; clear n0_ n1_ n2_ n3_ n4_ n5_ n6_ n7_ n8_ n9_; clear hb hbox hg; have hnb45 := NB120_117.out; have hnc45 := NB117_120.out; have hnb46 := NB120_118.out; have hnc46 := NB118_120.out; have hcz47_0 : w44.cell? ⟨gb120, 0, none⟩ = some (.int .u32 0) := (iD BK120.out 0).trans rfl; have hcz47_1 : w44.cell? ⟨gb120, 1, none⟩ = some (.slice none 0 0) := (iD BK120.out 1).trans rfl; have hfz47_0 := iE BK120.out 0; have hfz47_1 := iE BK120.out 1))
        go_loopg [14, 16, 17] kj6 (fun kq v14 v16 v17 w' => ∃ (x14_2 : Bool) (x16_2 : Int) (x17_2 : Int) (x121001_2 : List (S96)) (u121001 : Value), v14 = .bool x14_2 ∧ v16 = .int .i64 x16_2 ∧ v17 = .int .i64 x17_2 ∧ iC (stratumref12_Split.l0 kq a1 a3 a4 a5 x14_2 x16_2 x17_2 a0_0 l0_1 ((a0_0 + 1) % 4294967296) x121001_2 = some (r1, r2, r3)) ∧ iC (kq ≤ kj6) ∧ iC (Kd.R k96 96 w' w.heap.size (fun _ => True) u121001 x121001_2) ∧ iC (w'.heap[gb117]? = some (.cells #[.int .u32 a0_0, (.slice A0_1 l0_1.length c0_1)] 42 (0, 0))) ∧ iC (w'.heap[gb118]? = some (.cells #[.int .u32 0, (.slice none 0 0)] 42 (0, 0))) ∧ iC (w'.heap[gb120]? = some (.cells #[.int .u32 ((a0_0 + 1) % 4294967296), u121001] 42 (0, 0))) ∧ iC (Below w.heap.size w w'))
        case atStart => exact ⟨(false), ((-1)), (0), (([] : List (S96))), (.slice none 0 0), (by first | rfl | (simp; done) | (simp [*]; done)), (by first | rfl | (simp; done) | (simp [*]; done)), (by first | rfl | (simp; done) | (simp [*]; done)), H', ⟨Nat.le_refl _⟩, ⟨by first | exact Kd.R_nil _ _ _ _ _ | exact Kd.N_nil _ _ _ _ _ | exact Kd.V_nil _ _ _ _ _ | exact Kd.Q_nil _ _ _ _ _ | exact Kd.S_nil _ _ _ _ _⟩, ⟨by (with_reducible repeat (first | refine iR ?_ _ | refine iU ?_ | refine iO ?_ _)); refine jT ?_ NB117_120.out _; (with_reducible repeat (first | refine iR ?_ _ | refine iU ?_ | refine iO ?_ _)); refine jT ?_ NB117_120.out _; (with_reducible repeat (first | refine iR ?_ _ | refine iU ?_ | refine iO ?_ _)); exact BK117.out⟩, ⟨by (with_reducible repeat (first | refine iR ?_ _ | refine iU ?_ | refine iO ?_ _)); refine jT ?_ NB118_120.out _; (with_reducible repeat (first | refine iR ?_ _ | refine iU ?_ | refine iO ?_ _)); refine jT ?_ NB118_120.out _; (with_reducible repeat (first | refine iR ?_ _ | refine iU ?_ | refine iO ?_ _)); exact BK118.out⟩, ⟨by (with_reducible repeat (first | refine iR ?_ _ | refine iU ?_ | refine iO ?_ _)); refine iZ (cs := #[.int .u32 ((a0_0 + 1) % 4294967296), .slice none 0 0]) ?_ 1 _ rfl; (with_reducible repeat (first | refine iR ?_ _ | refine iU ?_ | refine iO ?_ _)); refine iZ (cs := #[.int .u32 0, .slice none 0 0]) ?_ 0 _ rfl; (with_reducible repeat (first | refine iR ?_ _ | refine iU ?_ | refine iO ?_ _)); exact BK120.out⟩, ⟨by repeat (first | (with_reducible first | exact HB.out | apply iF | apply iG | apply iL | refine iH ?_ GE117.out | refine iH ?_ GE118.out | refine iH ?_ GE120.out) | exact HB.out)⟩⟩
        case round =>
          clear H'
          try clear c1
          try clear c2
          try clear p2
          try clear c3
          try clear c4
          try clear c6
          try clear c11
          try clear c12
          try clear c12b0
          try clear c13
          try clear c16
          try clear c16b0
          try clear c17
          try clear c20
          try clear c20b0
          try clear c21
          try clear c24
          try clear c24b0
          try clear c25
          try clear c29
          try clear c29b0
          try clear c30
          try clear c33
          try clear c36
          try clear c39
          try clear c40
          try clear c42
          try clear c45
          try clear c46
          try clear hcz14_0
          try clear hcz14_1
          try clear hcz18_0
          try clear hcz18_1
          try clear hcz22_0
          try clear hcz22_1
          try clear hcz26_0
          try clear hcz26_1
          try clear hcz31_0
          try clear hcz31_1
          try clear hcz34_0
          try clear hcz34_1
          try clear hcz37_0
          try clear hcz37_1
          try clear hcz41_0
          try clear hcz41_1
          try clear hcz43_0
          try clear hcz43_1
          try clear hcz47_0
          try clear hcz47_1
          try clear hfz14_0
          try clear hfz14_1
          try clear hfz18_0
          try clear hfz18_1
          try clear hfz22_0
          try clear hfz22_1
          try clear hfz26_0
          try clear hfz26_1
          try clear hfz31_0
          try clear hfz31_1
          try clear hfz34_0
          try clear hfz34_1
          try clear hfz37_0
          try clear hfz37_1
          try clear hfz41_0
          try clear hfz41_1
          try clear hfz43_0
          try clear hfz43_1
          try clear hfz47_0
          try clear hfz47_1
          try clear p2
          obtain ⟨x14_2, x16_2, x17_2, x121001_2, u121001, rfl, rfl, rfl, HA, HK2, HO_121001, BK117, BK118, BK120, HB⟩ := hrel
          cases gk with
          | zero => exact absurd HA.out (by simp [stratumref12_Split.l0])
          | succ k2 =>
            have H := HA.out
            clear HA
            simp only [stratumref12_Split.l0] at H
            by_cases c48 : x17_2 < a1
            · rw [if_pos c48] at H
              have c48b0 : decide (x17_2 < a1) = true := decide_eq_true c48
              clear c48
              replace H := Option.bind_eq_some_iff.mp H
              obtain ⟨t121, A490, H⟩ := H
              replace H : (if x17_2 ≥ a3 then (stratumref12_Split.j2 k2 a1 a3 a4 a5 x14_2 x16_2 x17_2 t121 (decide (x17_2 < a4)) a0_0 l0_1 ((a0_0 + 1) % 4294967296) x121001_2) else (stratumref12_Split.j2 k2 a1 a3 a4 a5 x14_2 x16_2 x17_2 t121 false a0_0 l0_1 ((a0_0 + 1) % 4294967296) x121001_2)) = some (r1, r2, r3) := H
              have A49 := iC.mk A490
              clear A490
              have HC50 := iC.mk H
              clear H
              have hnb51 := NB117_118.out
              have hnc51 := NB118_117.out
              have hnb52 := NB117_120.out
              have hnc52 := NB120_117.out
              have hcz53_0 : wr.cell? ⟨gb117, 0, none⟩ = some (.int .u32 a0_0) := (iD BK117.out 0).trans rfl
              have hcz53_1 : wr.cell? ⟨gb117, 1, none⟩ = some (.slice A0_1 l0_1.length c0_1) := (iD BK117.out 1).trans rfl
              have hfz53_0 := iE BK117.out 0
              have hfz53_1 := iE BK117.out 1
              go_upto_region 10 with (first | ((with_reducible refine jY (f := 56) rfl ?_); refine nV (some 64) rfl rfl Try.func56 (by kernel_rfl) rfl #[.agg #[.int .u32 a0_0, .slice A0_1 l0_1.length c0_1], .int .i64 x17_2] rfl (by (try simp only [List.map_toArray, List.map_cons, List.map_nil]); first | done | rfl | (simp only [List.length_drop, List.length_take]; rfl)) ?_; (with_reducible refine (stratumref12_Find.calls k2 a0_0 _ _ l0_1 x17_2 t121 _ ?side1 ?side2 A49.out).mono ?_); (case side1 => repeat (first | exact (Kd.C_below HR0_1.out HB.out) | (with_reducible refine Kd.C_alloc ?_ _) | (with_reducible refine Kd.C_drewN ?_ _) | (with_reducible refine Kd.C_drew ?_))); (case side2 => exact HC0_1.out); rintro e w54 ⟨rfl, hb⟩; refine ⟨_, rfl, ?_⟩; have n0_ := iC.mk (Kd.R_below (by (with_reducible repeat (first | apply Kd.R_alloc | apply Kd.R_drewN | apply Kd.R_drew)); exact HO_121001.out) hb); have n1_ := iC.mk (iY (g := gb117) (o := .cells #[.int .u32 a0_0, .slice A0_1 l0_1.length c0_1] 42 (0, 0)) (bk_ BK117.out) hb); have n2_ := iC.mk (iY (g := gb118) (o := .cells #[.int .u32 0, .slice none 0 0] 42 (0, 0)) (bk_ BK118.out) hb); have n3_ := iC.mk (iY (g := gb120) (o := .cells #[.int .u32 ((a0_0 + 1) % 4294967296), u121001] 42 (0, 0)) (bk_ BK120.out) hb); have n4_ := iC.mk (iQ (by repeat (first | (with_reducible first | exact HB.out | apply iF | apply iG | apply iL | refine iH ?_ GE117.out | refine iH ?_ GE118.out | refine iH ?_ GE120.out) | exact HB.out)) hb); clear HO_121001; clear BK117; clear BK118; clear BK120; clear HB; have HO_121001 := n0_; have BK117 := n1_; have BK118 := n2_; have BK120 := n3_; have HB := n4_; clear n0_ n1_ n2_ n3_ n4_; (try clear hb); (try clear hb2); (try clear hk); (try clear hi)))
              (try simp only [Act.put, List.setIfInBounds_toArray, List.set_cons_zero, List.set_cons_succ])
              go_cut [72] (fun v72 wc => ∃ (kq : Nat) (x72_49 : Bool), v72 = .bool x72_49 ∧ iC (stratumref12_Split.j2 kq a1 a3 a4 a5 x14_2 x16_2 x17_2 t121 x72_49 a0_0 l0_1 ((a0_0 + 1) % 4294967296) x121001_2 = some (r1, r2, r3)) ∧ iC (kq ≤ k2) ∧ iC (Kd.R k96 96 wc w.heap.size (fun _ => True) u121001 x121001_2) ∧ iC (wc.heap[gb117]? = some (.cells #[.int .u32 a0_0, (.slice A0_1 l0_1.length c0_1)] 42 (0, 0))) ∧ iC (wc.heap[gb118]? = some (.cells #[.int .u32 0, (.slice none 0 0)] 42 (0, 0))) ∧ iC (wc.heap[gb120]? = some (.cells #[.int .u32 ((a0_0 + 1) % 4294967296), u121001] 42 (0, 0))) ∧ iC (Below w.heap.size w wc))
              case first =>
                have H := HC50.out
                clear HC50
                by_cases c55 : x17_2 ≥ a3
                · rw [if_pos c55] at H
                  have c55b0 : decide (a3 ≤ x17_2) = true := decide_eq_true c55
                  clear c55
                  (first | rw [c55b0] | (simp only [iJ, iK]; rw [c55b0]) | skip)
                  have H' := iC.mk H
                  clear H
                  go_wp2
                  go_meet
                  case rel => exact ⟨_, (decide (x17_2 < a4)), (by first | rfl | (simp; done) | (simp [*]; done)), H', ⟨by have := HJ6.out; have := HK2.out; first | omega | exact Nat.le_refl _⟩, ⟨by (with_reducible repeat (first | apply Kd.R_alloc | apply Kd.R_drewN | apply Kd.R_drew)); exact HO_121001.out⟩, ⟨bk_ BK117.out⟩, ⟨bk_ BK118.out⟩, ⟨bk_ BK120.out⟩, ⟨by repeat (first | (with_reducible first | exact HB.out | apply iF | apply iG | apply iL | refine iH ?_ GE117.out | refine iH ?_ GE118.out | refine iH ?_ GE120.out) | exact HB.out)⟩⟩
                · rw [if_neg c55] at H
                  have c55b0 : decide (a3 ≤ x17_2) = false := decide_eq_false c55
                  clear c55
                  (first | rw [c55b0] | (simp only [iJ, iK]; rw [c55b0]) | skip)
                  have H' := iC.mk H
                  clear H
                  go_wp2
                  go_meet
                  case rel => exact ⟨_, (false), (by first | rfl | (simp; done) | (simp [*]; done)), H', ⟨by have := HJ6.out; have := HK2.out; first | omega | exact Nat.le_refl _⟩, ⟨by (with_reducible repeat (first | apply Kd.R_alloc | apply Kd.R_drewN | apply Kd.R_drew)); exact HO_121001.out⟩, ⟨bk_ BK117.out⟩, ⟨bk_ BK118.out⟩, ⟨bk_ BK120.out⟩, ⟨by repeat (first | (with_reducible first | exact HB.out | apply iF | apply iG | apply iL | refine iH ?_ GE117.out | refine iH ?_ GE118.out | refine iH ?_ GE120.out) | exact HB.out)⟩⟩
              case rest =>
                clear HC50
                try clear c1
                try clear c2
                try clear p2
                try clear c3
                try clear c4
                try clear c5
                try clear c6
                try clear c11
                try clear c12
                try clear c12b0
                try clear c13
                try clear c16
                try clear c16b0
                try clear c17
                try clear c20
                try clear c20b0
                try clear c21
                try clear c24
                try clear c24b0
                try clear c25
                try clear c29
                try clear c29b0
                try clear c30
                try clear c33
                try clear c36
                try clear c39
                try clear c40
                try clear c42
                try clear c45
                try clear c46
                try clear c48
                try clear c48b0
                try clear c51
                try clear c52
                try clear c55
                try clear c55b0
                try clear hcz14_0
                try clear hcz14_1
                try clear hcz18_0
                try clear hcz18_1
                try clear hcz22_0
                try clear hcz22_1
                try clear hcz26_0
                try clear hcz26_1
                try clear hcz31_0
                try clear hcz31_1
                try clear hcz34_0
                try clear hcz34_1
                try clear hcz37_0
                try clear hcz37_1
                try clear hcz41_0
                try clear hcz41_1
                try clear hcz43_0
                try clear hcz43_1
                try clear hcz47_0
                try clear hcz47_1
                try clear hcz53_0
                try clear hcz53_1
                try clear hfz14_0
                try clear hfz14_1
                try clear hfz18_0
                try clear hfz18_1
                try clear hfz22_0
                try clear hfz22_1
                try clear hfz26_0
                try clear hfz26_1
                try clear hfz31_0
                try clear hfz31_1
                try clear hfz34_0
                try clear hfz34_1
                try clear hfz37_0
                try clear hfz37_1
                try clear hfz41_0
                try clear hfz41_1
                try clear hfz43_0
                try clear hfz43_1
                try clear hfz47_0
                try clear hfz47_1
                try clear hfz53_0
                try clear hfz53_1
                try clear p2
                obtain ⟨kq, x72_49, rfl, HA, HJ49, HO_121001, BK117, BK118, BK120, HB⟩ := hcut
                cases kq with
                | zero => exact absurd HA.out (by simp [stratumref12_Split.j2])
                | succ kj49 =>
                  have H := HA.out
                  clear HA
                  simp only [stratumref12_Split.j2] at H
                  by_cases c56 : x72_49 = true
                  · subst c56
                    have H1 : (if x14_2 = true then (if a5 = x16_2 then (stratumref12_Split.l0 kj49 a1 a3 a4 a5 true x16_2 (wrap64 (x17_2 + 1)) a0_0 l0_1 ((a0_0 + 1) % 4294967296) x121001_2) else (if x121001_2.length < 8796093022208 then (stratumref12_Split.l0 kj49 a1 a3 a4 a5 true a5 (wrap64 (x17_2 + 1)) a0_0 l0_1 ((a0_0 + 1) % 4294967296) (x121001_2 ++ [(⟨x17_2, a5⟩ : S96)])) else (none))) else (if a5 = x16_2 then (stratumref12_Split.l0 kj49 a1 a3 a4 a5 (t121 != a5) x16_2 (wrap64 (x17_2 + 1)) a0_0 l0_1 ((a0_0 + 1) % 4294967296) x121001_2) else (if x121001_2.length < 8796093022208 then (stratumref12_Split.l0 kj49 a1 a3 a4 a5 (t121 != a5) a5 (wrap64 (x17_2 + 1)) a0_0 l0_1 ((a0_0 + 1) % 4294967296) (x121001_2 ++ [(⟨x17_2, a5⟩ : S96)])) else (none)))) = some (r1, r2, r3) := by rw [if_pos rfl] at H; exact H
                    clear H
                    have H := H1
                    clear H1
                    by_cases c57 : x14_2 = true
                    · subst c57
                      have H1 : (if a5 = x16_2 then (stratumref12_Split.l0 kj49 a1 a3 a4 a5 true x16_2 (wrap64 (x17_2 + 1)) a0_0 l0_1 ((a0_0 + 1) % 4294967296) x121001_2) else (if x121001_2.length < 8796093022208 then (stratumref12_Split.l0 kj49 a1 a3 a4 a5 true a5 (wrap64 (x17_2 + 1)) a0_0 l0_1 ((a0_0 + 1) % 4294967296) (x121001_2 ++ [(⟨x17_2, a5⟩ : S96)])) else (none))) = some (r1, r2, r3) := by rw [if_pos rfl] at H; exact H
                      clear H
                      have H := H1
                      clear H1
                      by_cases c58 : a5 = x16_2
                      · rw [if_pos c58] at H
                        have c58b0 : (a5 == x16_2) = true := beq_iff_eq.mpr c58
                        have c58b1 : (a5 != x16_2) = false := bne_eq_false_iff_eq.mpr c58
                        clear c58
                        have H' := iC.mk H
                        clear H
                        go_wp2
                        go_roundg kj49
                        case measure => have := HJ6.out; have := HK2.out; have := HJ49.out; omega
                        case rel => exact ⟨(true), (x16_2), (wrap64 (x17_2 + 1)), (x121001_2), (u121001), (by first | rfl | (simp; done) | (simp [*]; done)), (by first | rfl | (simp; done) | (simp [*]; done)), (by first | rfl | (simp; done) | (simp [*]; done)), H', ⟨by have := HJ6.out; have := HK2.out; have := HJ49.out; omega⟩, ⟨by (with_reducible repeat (first | apply Kd.R_alloc | apply Kd.R_drewN | apply Kd.R_drew)); exact HO_121001.out⟩, ⟨bk_ BK117.out⟩, ⟨bk_ BK118.out⟩, ⟨bk_ BK120.out⟩, ⟨by repeat (first | (with_reducible first | exact HB.out | apply iF | apply iG | apply iL | refine iH ?_ GE117.out | refine iH ?_ GE118.out | refine iH ?_ GE120.out) | exact HB.out)⟩⟩
                      · rw [if_neg c58] at H
                        have c58b0 : (a5 == x16_2) = false := beq_eq_false_iff_ne.mpr c58
                        have c58b1 : (a5 != x16_2) = true := bne_iff_ne.mpr c58
                        by_cases c59 : x121001_2.length < 8796093022208
                        · rw [if_pos c59] at H
                          have LMc59 := iC.mk c59
                          clear c59
                          obtain ⟨y122, hy122⟩ : ∃ y_ : List (S96), y_ = (x121001_2 ++ [(⟨x17_2, a5⟩ : S96)]) := ⟨_, rfl⟩
                          replace H : (stratumref12_Split.l0 kj49 a1 a3 a4 a5 true a5 (wrap64 (x17_2 + 1)) a0_0 l0_1 ((a0_0 + 1) % 4294967296) y122) = some (r1, r2, r3) := by first | (rw [hy122]; with_reducible exact H) | (have H2_ := (Option.bind_some _ _).symm.trans H; rw [hy122]; with_reducible exact H2_) | (have H2_ := (Option.bind_some _ _).symm.trans H; with_reducible exact H2_) | with_reducible exact H | (rw [hy122]; exact H) | exact H
                          have Ny122 := iC.mk hy122
                          clear hy122
                          have H' := iC.mk H
                          clear H
                          have hnb60 := NB120_117.out
                          have hnc60 := NB117_120.out
                          have hnb61 := NB120_118.out
                          have hnc61 := NB118_120.out
                          have hcz62_0 : wc.cell? ⟨gb120, 0, none⟩ = some (.int .u32 ((a0_0 + 1) % 4294967296)) := (iD BK120.out 0).trans rfl
                          have hcz62_1 : wc.cell? ⟨gb120, 1, none⟩ = some (u121001) := (iD BK120.out 1).trans rfl
                          have hfz62_0 := iE BK120.out 0
                          have hfz62_1 := iE BK120.out 1
                          go_wp2_with (first | ((with_reducible refine lW (b := .append) (xs := #[.tmp 84, .tmp 88]) rfl ?_); (try (refine kK (by rfl) ?_; dsimp only)); at_builtin; refine Kd.R_append k96 (w0 := w) w.heap.size rfl (.tmp 84) (.tmp 88) 40 96 (.agg #[(.int .i64 0), (.int .i64 0)]) 16 rfl Try.underlying40 zK rfl (by decide) (by omega) u121001 x121001_2 (⟨x17_2, a5⟩ : S96) [.int .i64 x17_2, .int .i64 a5] (fun _ => True) (fun _ => False) rfl rfl ?aP (fun _ hk => hk.elim) ?aF ?aO ?aB ?aS ?aL ?_; (case aP => exact k96_mkM _ _ _ (⟨x17_2, a5⟩ : S96)); (case aB => exact (by repeat (first | (with_reducible first | exact HB.out | apply iF | apply iG | apply iL | refine iH ?_ GE117.out | refine iH ?_ GE118.out | refine iH ?_ GE120.out) | exact HB.out))); (case aF => exact (fun _ _ => trivial)); (case aO => exact (by (with_reducible repeat (first | apply Kd.R_alloc | apply Kd.R_drewN | apply Kd.R_drew)); exact HO_121001.out)); (case aS => exact (iW (by repeat (first | (with_reducible first | exact HB.out | apply iF | apply iG | apply iL | refine iH ?_ GE117.out | refine iH ?_ GE118.out | refine iH ?_ GE120.out) | exact HB.out)))); (case aL => have := LMc59.out; omega); intro v123 w63 ho hb hg hat; rw [← Ny122.out] at ho; have n0_ := iC.mk (jR (g := gb117) (o := .cells #[.int .u32 a0_0, .slice A0_1 l0_1.length c0_1] 42 (0, 0)) (bk_ BK117.out) hg (Kd.R_ne HO_121001.out BK117.out (by decide))); have n1_ := iC.mk (jR (g := gb118) (o := .cells #[.int .u32 0, .slice none 0 0] 42 (0, 0)) (bk_ BK118.out) hg (Kd.R_ne HO_121001.out BK118.out (by decide))); have n2_ := iC.mk (jR (g := gb120) (o := .cells #[.int .u32 ((a0_0 + 1) % 4294967296), u121001] 42 (0, 0)) (bk_ BK120.out) hg (Kd.R_ne HO_121001.out BK120.out (by decide))); have n3_ := iC.mk (hb); have n4_ := iC.mk (ho); clear BK117; clear BK118; clear BK120; clear HB; clear HO_121001; have BK117 := n0_; have BK118 := n1_; have BK120 := n2_; have HB := n3_; have HO124 := n4_; clear n0_ n1_ n2_ n3_ n4_; clear ho hb hg hat; obtain ⟨Ao64, co64, eo64⟩ := Kd.R_slice HO124.out; subst eo64; have hcz65_0 : w63.cell? ⟨gb120, 0, none⟩ = some (.int .u32 ((a0_0 + 1) % 4294967296)) := (iD BK120.out 0).trans rfl; have hcz65_1 : w63.cell? ⟨gb120, 1, none⟩ = some (u121001) := (iD BK120.out 1).trans rfl; have hfz65_0 := iE BK120.out 0; have hfz65_1 := iE BK120.out 1))
                          go_roundg kj49
                          case measure => have := HJ6.out; have := HK2.out; have := HJ49.out; omega
                          case rel => exact ⟨(true), (a5), (wrap64 (x17_2 + 1)), (y122), (.slice Ao64 y122.length co64), (by first | rfl | (simp; done) | (simp [*]; done)), (by first | rfl | (simp; done) | (simp [*]; done)), (by first | rfl | (simp; done) | (simp [*]; done)), H', ⟨by have := HJ6.out; have := HK2.out; have := HJ49.out; omega⟩, ⟨by (with_reducible repeat (first | apply Kd.R_alloc | apply Kd.R_drewN | apply Kd.R_drew)); exact Kd.R_mono (Kd.R_far (p := ⟨gb120, 1, none⟩) (Kd.R_types HO124.out BK120.out (by decide)) (fun _ hk => hk.2) (.slice Ao64 y122.length co64)) (fun _ hk => trivial)⟩, ⟨by (with_reducible repeat (first | refine iR ?_ _ | refine iU ?_ | refine iO ?_ _)); refine jT ?_ NB117_120.out _; (with_reducible repeat (first | refine iR ?_ _ | refine iU ?_ | refine iO ?_ _)); exact BK117.out⟩, ⟨by (with_reducible repeat (first | refine iR ?_ _ | refine iU ?_ | refine iO ?_ _)); refine jT ?_ NB118_120.out _; (with_reducible repeat (first | refine iR ?_ _ | refine iU ?_ | refine iO ?_ _)); exact BK118.out⟩, ⟨by (with_reducible repeat (first | refine iR ?_ _ | refine iU ?_ | refine iO ?_ _)); refine iZ (cs := #[.int .u32 ((a0_0 + 1) % 4294967296), u121001]) ?_ 1 _ rfl; (with_reducible repeat (first | refine iR ?_ _ | refine iU ?_ | refine iO ?_ _)); exact BK120.out⟩, ⟨by repeat (first | (with_reducible first | exact HB.out | apply iF | apply iG | apply iL | refine iH ?_ GE117.out | refine iH ?_ GE118.out | refine iH ?_ GE120.out) | exact HB.out)⟩⟩
                        · rw [if_neg c59] at H
                          exact absurd H (by simp)
                    · replace c57 := Bool.eq_false_iff.mpr c57
                      subst c57
                      have H1 : (if a5 = x16_2 then (stratumref12_Split.l0 kj49 a1 a3 a4 a5 (t121 != a5) x16_2 (wrap64 (x17_2 + 1)) a0_0 l0_1 ((a0_0 + 1) % 4294967296) x121001_2) else (if x121001_2.length < 8796093022208 then (stratumref12_Split.l0 kj49 a1 a3 a4 a5 (t121 != a5) a5 (wrap64 (x17_2 + 1)) a0_0 l0_1 ((a0_0 + 1) % 4294967296) (x121001_2 ++ [(⟨x17_2, a5⟩ : S96)])) else (none))) = some (r1, r2, r3) := by rw [if_neg (show ¬ (false = true) by decide)] at H; exact H
                      clear H
                      have H := H1
                      clear H1
                      by_cases c66 : a5 = x16_2
                      · rw [if_pos c66] at H
                        have c66b0 : (a5 == x16_2) = true := beq_iff_eq.mpr c66
                        have c66b1 : (a5 != x16_2) = false := bne_eq_false_iff_eq.mpr c66
                        clear c66
                        have H' := iC.mk H
                        clear H
                        go_wp2
                        go_roundg kj49
                        case measure => have := HJ6.out; have := HK2.out; have := HJ49.out; omega
                        case rel => exact ⟨((t121 != a5)), (x16_2), (wrap64 (x17_2 + 1)), (x121001_2), (u121001), (by first | rfl | (simp; done) | (simp [*]; done)), (by first | rfl | (simp; done) | (simp [*]; done)), (by first | rfl | (simp; done) | (simp [*]; done)), H', ⟨by have := HJ6.out; have := HK2.out; have := HJ49.out; omega⟩, ⟨by (with_reducible repeat (first | apply Kd.R_alloc | apply Kd.R_drewN | apply Kd.R_drew)); exact HO_121001.out⟩, ⟨bk_ BK117.out⟩, ⟨bk_ BK118.out⟩, ⟨bk_ BK120.out⟩, ⟨by repeat (first | (with_reducible first | exact HB.out | apply iF | apply iG | apply iL | refine iH ?_ GE117.out | refine iH ?_ GE118.out | refine iH ?_ GE120.out) | exact HB.out)⟩⟩
                      · rw [if_neg c66] at H
                        have c66b0 : (a5 == x16_2) = false := beq_eq_false_iff_ne.mpr c66
                        have c66b1 : (a5 != x16_2) = true := bne_iff_ne.mpr c66
                        by_cases c67 : x121001_2.length < 8796093022208
                        · rw [if_pos c67] at H
                          have LMc67 := iC.mk c67
                          clear c67
                          obtain ⟨y125, hy125⟩ : ∃ y_ : List (S96), y_ = (x121001_2 ++ [(⟨x17_2, a5⟩ : S96)]) := ⟨_, rfl⟩
                          replace H : (stratumref12_Split.l0 kj49 a1 a3 a4 a5 (t121 != a5) a5 (wrap64 (x17_2 + 1)) a0_0 l0_1 ((a0_0 + 1) % 4294967296) y125) = some (r1, r2, r3) := by first | (rw [hy125]; with_reducible exact H) | (have H2_ := (Option.bind_some _ _).symm.trans H; rw [hy125]; with_reducible exact H2_) | (have H2_ := (Option.bind_some _ _).symm.trans H; with_reducible exact H2_) | with_reducible exact H | (rw [hy125]; exact H) | exact H
                          have Ny125 := iC.mk hy125
                          clear hy125
                          have H' := iC.mk H
                          clear H
                          have hnb68 := NB120_117.out
                          have hnc68 := NB117_120.out
                          have hnb69 := NB120_118.out
                          have hnc69 := NB118_120.out
                          have hcz70_0 : wc.cell? ⟨gb120, 0, none⟩ = some (.int .u32 ((a0_0 + 1) % 4294967296)) := (iD BK120.out 0).trans rfl
                          have hcz70_1 : wc.cell? ⟨gb120, 1, none⟩ = some (u121001) := (iD BK120.out 1).trans rfl
                          have hfz70_0 := iE BK120.out 0
                          have hfz70_1 := iE BK120.out 1
                          go_wp2_with (first | ((with_reducible refine lW (b := .append) (xs := #[.tmp 84, .tmp 88]) rfl ?_); (try (refine kK (by rfl) ?_; dsimp only)); at_builtin; refine Kd.R_append k96 (w0 := w) w.heap.size rfl (.tmp 84) (.tmp 88) 40 96 (.agg #[(.int .i64 0), (.int .i64 0)]) 16 rfl Try.underlying40 zK rfl (by decide) (by omega) u121001 x121001_2 (⟨x17_2, a5⟩ : S96) [.int .i64 x17_2, .int .i64 a5] (fun _ => True) (fun _ => False) rfl rfl ?aP (fun _ hk => hk.elim) ?aF ?aO ?aB ?aS ?aL ?_; (case aP => exact k96_mkM _ _ _ (⟨x17_2, a5⟩ : S96)); (case aB => exact (by repeat (first | (with_reducible first | exact HB.out | apply iF | apply iG | apply iL | refine iH ?_ GE117.out | refine iH ?_ GE118.out | refine iH ?_ GE120.out) | exact HB.out))); (case aF => exact (fun _ _ => trivial)); (case aO => exact (by (with_reducible repeat (first | apply Kd.R_alloc | apply Kd.R_drewN | apply Kd.R_drew)); exact HO_121001.out)); (case aS => exact (iW (by repeat (first | (with_reducible first | exact HB.out | apply iF | apply iG | apply iL | refine iH ?_ GE117.out | refine iH ?_ GE118.out | refine iH ?_ GE120.out) | exact HB.out)))); (case aL => have := LMc67.out; omega); intro v126 w71 ho hb hg hat; rw [← Ny125.out] at ho; have n0_ := iC.mk (jR (g := gb117) (o := .cells #[.int .u32 a0_0, .slice A0_1 l0_1.length c0_1] 42 (0, 0)) (bk_ BK117.out) hg (Kd.R_ne HO_121001.out BK117.out (by decide))); have n1_ := iC.mk (jR (g := gb118) (o := .cells #[.int .u32 0, .slice none 0 0] 42 (0, 0)) (bk_ BK118.out) hg (Kd.R_ne HO_121001.out BK118.out (by decide))); have n2_ := iC.mk (jR (g := gb120) (o := .cells #[.int .u32 ((a0_0 + 1) % 4294967296), u121001] 42 (0, 0)) (bk_ BK120.out) hg (Kd.R_ne HO_121001.out BK120.out (by decide))); have n3_ := iC.mk (hb); have n4_ := iC.mk (ho); clear BK117; clear BK118; clear BK120; clear HB; clear HO_121001; have BK117 := n0_; have BK118 := n1_; have BK120 := n2_; have HB := n3_; have HO127 := n4_; clear n0_ n1_ n2_ n3_ n4_; clear ho hb hg hat; obtain ⟨Ao72, co72, eo72⟩ := Kd.R_slice HO127.out; subst eo72; have hcz73_0 : w71.cell? ⟨gb120, 0, none⟩ = some (.int .u32 ((a0_0 + 1) % 4294967296)) := (iD BK120.out 0).trans rfl; have hcz73_1 : w71.cell? ⟨gb120, 1, none⟩ = some (u121001) := (iD BK120.out 1).trans rfl; have hfz73_0 := iE BK120.out 0; have hfz73_1 := iE BK120.out 1))
                          go_roundg kj49
                          case measure => have := HJ6.out; have := HK2.out; have := HJ49.out; omega
                          case rel => exact ⟨((t121 != a5)), (a5), (wrap64 (x17_2 + 1)), (y125), (.slice Ao72 y125.length co72), (by first | rfl | (simp; done) | (simp [*]; done)), (by first | rfl | (simp; done) | (simp [*]; done)), (by first | rfl | (simp; done) | (simp [*]; done)), H', ⟨by have := HJ6.out; have := HK2.out; have := HJ49.out; omega⟩, ⟨by (with_reducible repeat (first | apply Kd.R_alloc | apply Kd.R_drewN | apply Kd.R_drew)); exact Kd.R_mono (Kd.R_far (p := ⟨gb120, 1, none⟩) (Kd.R_types HO127.out BK120.out (by decide)) (fun _ hk => hk.2) (.slice Ao72 y125.length co72)) (fun _ hk => trivial)⟩, ⟨by (with_reducible repeat (first | refine iR ?_ _ | refine iU ?_ | refine iO ?_ _)); refine jT ?_ NB117_120.out _; (with_reducible repeat (first | refine iR ?_ _ | refine iU ?_ | refine iO ?_ _)); exact BK117.out⟩, ⟨by (with_reducible repeat (first | refine iR ?_ _ | refine iU ?_ | refine iO ?_ _)); refine jT ?_ NB118_120.out _; (with_reducible repeat (first | refine iR ?_ _ | refine iU ?_ | refine iO ?_ _)); exact BK118.out⟩, ⟨by (with_reducible repeat (first | refine iR ?_ _ | refine iU ?_ | refine iO ?_ _)); refine iZ (cs := #[.int .u32 ((a0_0 + 1) % 4294967296), u121001]) ?_ 1 _ rfl; (with_reducible repeat (first | refine iR ?_ _ | refine iU ?_ | refine iO ?_ _)); exact BK120.out⟩, ⟨by repeat (first | (with_reducible first | exact HB.out | apply iF | apply iG | apply iL | refine iH ?_ GE117.out | refine iH ?_ GE118.out | refine iH ?_ GE120.out) | exact HB.out)⟩⟩
                        · rw [if_neg c67] at H
                          exact absurd H (by simp)
                  · replace c56 := Bool.eq_false_iff.mpr c56
                    subst c56
                    have H1 : (if t121 = x16_2 then (stratumref12_Split.l0 kj49 a1 a3 a4 a5 x14_2 x16_2 (wrap64 (x17_2 + 1)) a0_0 l0_1 ((a0_0 + 1) % 4294967296) x121001_2) else (if x121001_2.length < 8796093022208 then (stratumref12_Split.l0 kj49 a1 a3 a4 a5 x14_2 t121 (wrap64 (x17_2 + 1)) a0_0 l0_1 ((a0_0 + 1) % 4294967296) (x121001_2 ++ [(⟨x17_2, t121⟩ : S96)])) else (none))) = some (r1, r2, r3) := by rw [if_neg (show ¬ (false = true) by decide)] at H; exact H
                    clear H
                    have H := H1
                    clear H1
                    by_cases c74 : t121 = x16_2
                    · rw [if_pos c74] at H
                      have c74b0 : (t121 == x16_2) = true := beq_iff_eq.mpr c74
                      have c74b1 : (t121 != x16_2) = false := bne_eq_false_iff_eq.mpr c74
                      clear c74
                      have H' := iC.mk H
                      clear H
                      go_wp2
                      go_roundg kj49
                      case measure => have := HJ6.out; have := HK2.out; have := HJ49.out; omega
                      case rel => exact ⟨(x14_2), (x16_2), (wrap64 (x17_2 + 1)), (x121001_2), (u121001), (by first | rfl | (simp; done) | (simp [*]; done)), (by first | rfl | (simp; done) | (simp [*]; done)), (by first | rfl | (simp; done) | (simp [*]; done)), H', ⟨by have := HJ6.out; have := HK2.out; have := HJ49.out; omega⟩, ⟨by (with_reducible repeat (first | apply Kd.R_alloc | apply Kd.R_drewN | apply Kd.R_drew)); exact HO_121001.out⟩, ⟨bk_ BK117.out⟩, ⟨bk_ BK118.out⟩, ⟨bk_ BK120.out⟩, ⟨by repeat (first | (with_reducible first | exact HB.out | apply iF | apply iG | apply iL | refine iH ?_ GE117.out | refine iH ?_ GE118.out | refine iH ?_ GE120.out) | exact HB.out)⟩⟩
                    · rw [if_neg c74] at H
                      have c74b0 : (t121 == x16_2) = false := beq_eq_false_iff_ne.mpr c74
                      have c74b1 : (t121 != x16_2) = true := bne_iff_ne.mpr c74
                      by_cases c75 : x121001_2.length < 8796093022208
                      · rw [if_pos c75] at H
                        have LMc75 := iC.mk c75
                        clear c75
                        obtain ⟨y128, hy128⟩ : ∃ y_ : List (S96), y_ = (x121001_2 ++ [(⟨x17_2, t121⟩ : S96)]) := ⟨_, rfl⟩
                        replace H : (stratumref12_Split.l0 kj49 a1 a3 a4 a5 x14_2 t121 (wrap64 (x17_2 + 1)) a0_0 l0_1 ((a0_0 + 1) % 4294967296) y128) = some (r1, r2, r3) := by first | (rw [hy128]; with_reducible exact H) | (have H2_ := (Option.bind_some _ _).symm.trans H; rw [hy128]; with_reducible exact H2_) | (have H2_ := (Option.bind_some _ _).symm.trans H; with_reducible exact H2_) | with_reducible exact H | (rw [hy128]; exact H) | exact H
                        have Ny128 := iC.mk hy128
                        clear hy128
                        have H' := iC.mk H
                        clear H
                        have hnb76 := NB120_117.out
                        have hnc76 := NB117_120.out
                        have hnb77 := NB120_118.out
                        have hnc77 := NB118_120.out
                        have hcz78_0 : wc.cell? ⟨gb120, 0, none⟩ = some (.int .u32 ((a0_0 + 1) % 4294967296)) := (iD BK120.out 0).trans rfl
                        have hcz78_1 : wc.cell? ⟨gb120, 1, none⟩ = some (u121001) := (iD BK120.out 1).trans rfl
                        have hfz78_0 := iE BK120.out 0
                        have hfz78_1 := iE BK120.out 1
                        go_wp2_with (first | ((with_reducible refine lW (b := .append) (xs := #[.tmp 84, .tmp 88]) rfl ?_); (try (refine kK (by rfl) ?_; dsimp only)); at_builtin; refine Kd.R_append k96 (w0 := w) w.heap.size rfl (.tmp 84) (.tmp 88) 40 96 (.agg #[(.int .i64 0), (.int .i64 0)]) 16 rfl Try.underlying40 zK rfl (by decide) (by omega) u121001 x121001_2 (⟨x17_2, t121⟩ : S96) [.int .i64 x17_2, .int .i64 t121] (fun _ => True) (fun _ => False) rfl rfl ?aP (fun _ hk => hk.elim) ?aF ?aO ?aB ?aS ?aL ?_; (case aP => exact k96_mkM _ _ _ (⟨x17_2, t121⟩ : S96)); (case aB => exact (by repeat (first | (with_reducible first | exact HB.out | apply iF | apply iG | apply iL | refine iH ?_ GE117.out | refine iH ?_ GE118.out | refine iH ?_ GE120.out) | exact HB.out))); (case aF => exact (fun _ _ => trivial)); (case aO => exact (by (with_reducible repeat (first | apply Kd.R_alloc | apply Kd.R_drewN | apply Kd.R_drew)); exact HO_121001.out)); (case aS => exact (iW (by repeat (first | (with_reducible first | exact HB.out | apply iF | apply iG | apply iL | refine iH ?_ GE117.out | refine iH ?_ GE118.out | refine iH ?_ GE120.out) | exact HB.out)))); (case aL => have := LMc75.out; omega); intro v129 w79 ho hb hg hat; rw [← Ny128.out] at ho; have n0_ := iC.mk (jR (g := gb117) (o := .cells #[.int .u32 a0_0, .slice A0_1 l0_1.length c0_1] 42 (0, 0)) (bk_ BK117.out) hg (Kd.R_ne HO_121001.out BK117.out (by decide))); have n1_ := iC.mk (jR (g := gb118) (o := .cells #[.int .u32 0, .slice none 0 0] 42 (0, 0)) (bk_ BK118.out) hg (Kd.R_ne HO_121001.out BK118.out (by decide))); have n2_ := iC.mk (jR (g := gb120) (o := .cells #[.int .u32 ((a0_0 + 1) % 4294967296), u121001] 42 (0, 0)) (bk_ BK120.out) hg (Kd.R_ne HO_121001.out BK120.out (by decide))); have n3_ := iC.mk (hb); have n4_ := iC.mk (ho); clear BK117; clear BK118; clear BK120; clear HB; clear HO_121001; have BK117 := n0_; have BK118 := n1_; have BK120 := n2_; have HB := n3_; have HO130 := n4_; clear n0_ n1_ n2_ n3_ n4_; clear ho hb hg hat; obtain ⟨Ao80, co80, eo80⟩ := Kd.R_slice HO130.out; subst eo80; have hcz81_0 : w79.cell? ⟨gb120, 0, none⟩ = some (.int .u32 ((a0_0 + 1) % 4294967296)) := (iD BK120.out 0).trans rfl; have hcz81_1 : w79.cell? ⟨gb120, 1, none⟩ = some (u121001) := (iD BK120.out 1).trans rfl; have hfz81_0 := iE BK120.out 0; have hfz81_1 := iE BK120.out 1))
                        go_roundg kj49
                        case measure => have := HJ6.out; have := HK2.out; have := HJ49.out; omega
                        case rel => exact ⟨(x14_2), (t121), (wrap64 (x17_2 + 1)), (y128), (.slice Ao80 y128.length co80), (by first | rfl | (simp; done) | (simp [*]; done)), (by first | rfl | (simp; done) | (simp [*]; done)), (by first | rfl | (simp; done) | (simp [*]; done)), H', ⟨by have := HJ6.out; have := HK2.out; have := HJ49.out; omega⟩, ⟨by (with_reducible repeat (first | apply Kd.R_alloc | apply Kd.R_drewN | apply Kd.R_drew)); exact Kd.R_mono (Kd.R_far (p := ⟨gb120, 1, none⟩) (Kd.R_types HO130.out BK120.out (by decide)) (fun _ hk => hk.2) (.slice Ao80 y128.length co80)) (fun _ hk => trivial)⟩, ⟨by (with_reducible repeat (first | refine iR ?_ _ | refine iU ?_ | refine iO ?_ _)); refine jT ?_ NB117_120.out _; (with_reducible repeat (first | refine iR ?_ _ | refine iU ?_ | refine iO ?_ _)); exact BK117.out⟩, ⟨by (with_reducible repeat (first | refine iR ?_ _ | refine iU ?_ | refine iO ?_ _)); refine jT ?_ NB118_120.out _; (with_reducible repeat (first | refine iR ?_ _ | refine iU ?_ | refine iO ?_ _)); exact BK118.out⟩, ⟨by (with_reducible repeat (first | refine iR ?_ _ | refine iU ?_ | refine iO ?_ _)); refine iZ (cs := #[.int .u32 ((a0_0 + 1) % 4294967296), u121001]) ?_ 1 _ rfl; (with_reducible repeat (first | refine iR ?_ _ | refine iU ?_ | refine iO ?_ _)); exact BK120.out⟩, ⟨by repeat (first | (with_reducible first | exact HB.out | apply iF | apply iG | apply iL | refine iH ?_ GE117.out | refine iH ?_ GE118.out | refine iH ?_ GE120.out) | exact HB.out)⟩⟩
                      · rw [if_neg c75] at H
                        exact absurd H (by simp)
            · rw [if_neg c48] at H
              have c48b0 : decide (x17_2 < a1) = false := decide_eq_false c48
              clear c48
              by_cases c82 : x14_2 = true
              · subst c82
                have H1 : (if (x121001_2.length : Int) > 40 then (some (0, ([] : List (S96)), 3)) else (some (((a0_0 + 1) % 4294967296), x121001_2, 0))) = some (r1, r2, r3) := by rw [if_pos rfl] at H; exact H
                clear H
                have H := H1
                clear H1
                by_cases c83 : (x121001_2.length : Int) > 40
                · rw [if_pos c83] at H
                  have c83b0 : decide (40 < (x121001_2.length : Int)) = true := decide_eq_true c83
                  have c83b1 : decide (40 < x121001_2.length) = true := decide_eq_true (by omega)
                  clear c83
                  simp only [Option.some.injEq, Prod.mk.injEq] at H
                  obtain ⟨rfl, rfl, rfl⟩ := H
                  have hnb84 := NB120_117.out
                  have hnc84 := NB117_120.out
                  have hnb85 := NB120_118.out
                  have hnc85 := NB118_120.out
                  have hcz86_0 : wr.cell? ⟨gb120, 0, none⟩ = some (.int .u32 ((a0_0 + 1) % 4294967296)) := (iD BK120.out 0).trans rfl
                  have hcz86_1 : wr.cell? ⟨gb120, 1, none⟩ = some (u121001) := (iD BK120.out 1).trans rfl
                  have hfz86_0 := iE BK120.out 0
                  have hfz86_1 := iE BK120.out 1
                  obtain ⟨Ao87, co87, eo87⟩ := Kd.R_slice HO_121001.out
                  subst eo87
                  have hnb88 := NB118_117.out
                  have hnc88 := NB117_118.out
                  have hcz89_0 : wr.cell? ⟨gb118, 0, none⟩ = some (.int .u32 0) := (iD BK118.out 0).trans rfl
                  have hcz89_1 : wr.cell? ⟨gb118, 1, none⟩ = some (.slice none 0 0) := (iD BK118.out 1).trans rfl
                  have hfz89_0 := iE BK118.out 0
                  have hfz89_1 := iE BK118.out 1
                  go_wp2
                  refine bodyPost_ret (mJ rfl _ _ gb118 42 #[.int .u32 0, .slice none 0 0] (0, 0) _ rfl (by (with_reducible repeat (first | refine iR ?_ _ | refine iU ?_ | refine iO ?_ _)); refine iZ (cs := #[.int .u32 0, .slice none 0 0]) ?_ 1 _ rfl; (with_reducible repeat (first | refine iR ?_ _ | refine iU ?_ | refine iO ?_ _)); refine iZ (cs := #[.int .u32 0, .slice none 0 0]) ?_ 0 _ rfl; (with_reducible repeat (first | refine iR ?_ _ | refine iU ?_ | refine iO ?_ _)); exact BK118.out) Try.underlying42 rfl (by kernel_rfl)) rfl ?_
                  exact ⟨_, by first | rfl | (simp [jF, jG] <;> rfl) | (simp [*, jF, jG] <;> rfl), by first | exact Kd.R_nil _ _ _ _ _ | exact Kd.N_nil _ _ _ _ _ | exact Kd.V_nil _ _ _ _ _ | exact Kd.Q_nil _ _ _ _ _ | exact Kd.S_nil _ _ _ _ _, by repeat (first | (with_reducible first | exact HB.out | apply iF | apply iG | apply iL | refine iH ?_ GE117.out | refine iH ?_ GE118.out | refine iH ?_ GE120.out) | exact HB.out)⟩
                · rw [if_neg c83] at H
                  have c83b0 : decide (40 < (x121001_2.length : Int)) = false := decide_eq_false c83
                  have c83b1 : decide (40 < x121001_2.length) = false := decide_eq_false (by omega)
                  clear c83
                  simp only [Option.some.injEq, Prod.mk.injEq] at H
                  obtain ⟨rfl, rfl, rfl⟩ := H
                  have hnb90 := NB120_117.out
                  have hnc90 := NB117_120.out
                  have hnb91 := NB120_118.out
                  have hnc91 := NB118_120.out
                  have hcz92_0 : wr.cell? ⟨gb120, 0, none⟩ = some (.int .u32 ((a0_0 + 1) % 4294967296)) := (iD BK120.out 0).trans rfl
                  have hcz92_1 : wr.cell? ⟨gb120, 1, none⟩ = some (u121001) := (iD BK120.out 1).trans rfl
                  have hfz92_0 := iE BK120.out 0
                  have hfz92_1 := iE BK120.out 1
                  obtain ⟨Ao93, co93, eo93⟩ := Kd.R_slice HO_121001.out
                  subst eo93
                  have hnb94 := NB118_117.out
                  have hnc94 := NB117_118.out
                  have hcz95_0 : wr.cell? ⟨gb118, 0, none⟩ = some (.int .u32 0) := (iD BK118.out 0).trans rfl
                  have hcz95_1 : wr.cell? ⟨gb118, 1, none⟩ = some (.slice none 0 0) := (iD BK118.out 1).trans rfl
                  have hfz95_0 := iE BK118.out 0
                  have hfz95_1 := iE BK118.out 1
                  go_wp2
                  refine bodyPost_ret (mJ rfl _ _ gb118 42 #[.int .u32 ((a0_0 + 1) % 4294967296), .slice Ao93 x121001_2.length co93] (0, 0) _ rfl (by (with_reducible repeat (first | refine iR ?_ _ | refine iU ?_ | refine iO ?_ _)); refine iZ (cs := #[.int .u32 ((a0_0 + 1) % 4294967296), .slice none 0 0]) ?_ 1 _ rfl; (with_reducible repeat (first | refine iR ?_ _ | refine iU ?_ | refine iO ?_ _)); refine iZ (cs := #[.int .u32 0, .slice none 0 0]) ?_ 0 _ rfl; (with_reducible repeat (first | refine iR ?_ _ | refine iU ?_ | refine iO ?_ _)); exact BK118.out) Try.underlying42 rfl (by kernel_rfl)) rfl ?_
                  exact ⟨_, by first | rfl | (simp [jF, jG] <;> rfl) | (simp [*, jF, jG] <;> rfl), by (with_reducible repeat (first | apply Kd.R_alloc | apply Kd.R_drewN | apply Kd.R_drew)); exact Kd.R_mono (Kd.R_far (p := ⟨gb118, 1, none⟩) (Kd.R_far (p := ⟨gb118, 0, none⟩) (Kd.R_types HO_121001.out BK118.out (by decide)) (fun _ hk => hk.2) (.int .u32 ((a0_0 + 1) % 4294967296))) (fun _ hk => hk.2) (.slice Ao93 x121001_2.length co93)) (fun _ hk => trivial), by repeat (first | (with_reducible first | exact HB.out | apply iF | apply iG | apply iL | refine iH ?_ GE117.out | refine iH ?_ GE118.out | refine iH ?_ GE120.out) | exact HB.out)⟩
              · replace c82 := Bool.eq_false_iff.mpr c82
                subst c82
                have H1 : (some (0, ([] : List (S96)), 120)) = some (r1, r2, r3) := by rw [if_neg (show ¬ (false = true) by decide)] at H; exact H
                clear H
                have H := H1
                clear H1
                simp only [Option.some.injEq, Prod.mk.injEq] at H
                obtain ⟨rfl, rfl, rfl⟩ := H
                have hnb96 := NB118_117.out
                have hnc96 := NB117_118.out
                have hnb97 := NB118_120.out
                have hnc97 := NB120_118.out
                have hcz98_0 : wr.cell? ⟨gb118, 0, none⟩ = some (.int .u32 0) := (iD BK118.out 0).trans rfl
                have hcz98_1 : wr.cell? ⟨gb118, 1, none⟩ = some (.slice none 0 0) := (iD BK118.out 1).trans rfl
                have hfz98_0 := iE BK118.out 0
                have hfz98_1 := iE BK118.out 1
                go_wp2
                refine bodyPost_ret (mJ rfl _ _ gb118 42 #[.int .u32 0, .slice none 0 0] (0, 0) _ rfl (by (with_reducible repeat (first | refine iR ?_ _ | refine iU ?_ | refine iO ?_ _)); refine iZ (cs := #[.int .u32 0, .slice none 0 0]) ?_ 1 _ rfl; (with_reducible repeat (first | refine iR ?_ _ | refine iU ?_ | refine iO ?_ _)); refine iZ (cs := #[.int .u32 0, .slice none 0 0]) ?_ 0 _ rfl; (with_reducible repeat (first | refine iR ?_ _ | refine iU ?_ | refine iO ?_ _)); exact BK118.out) Try.underlying42 rfl (by kernel_rfl)) rfl ?_
                exact ⟨_, by first | rfl | (simp [jF, jG] <;> rfl) | (simp [*, jF, jG] <;> rfl), by first | exact Kd.R_nil _ _ _ _ _ | exact Kd.N_nil _ _ _ _ _ | exact Kd.V_nil _ _ _ _ _ | exact Kd.Q_nil _ _ _ _ _ | exact Kd.S_nil _ _ _ _ _, by repeat (first | (with_reducible first | exact HB.out | apply iF | apply iG | apply iL | refine iH ?_ GE117.out | refine iH ?_ GE118.out | refine iH ?_ GE120.out) | exact HB.out)⟩
end Go.Proofs.Ytjppookmjdaplaa.K
end

section
namespace Go.Proofs.Ytjppookmjdaplaa.K
open Go Go.RowKit Go.Proofs.YtjppookmjdaplaaW.PrintWords Go.Proofs.YtjppookmjdaplaaW.PrintLast Go.Proofs.YtjppookmjdaplaaW.PrintMore
theorem rE (m a : Int) (l : List TSp) (hl : (l.length : Int) ≤ 1000000) :
    ∀ (k i : Nat) (d : Int), i ≤ l.length → l.length - i < k → stratumref12_Find.l0 k m d i a l = some (fd d (l.drop i) m)
  | 0, _, _, _, h => by omega
  | k + 1, i, d, hi, hki => by
    rw [stratumref12_Find.l0]
    by_cases hlt : i < l.length
    · rw [if_pos (by omega), if_pos (by omega), nO l i hlt, drop_cons l i hlt, J8 i (by omega), lI]
      by_cases h1 : l[i].f0 ≤ m
      · rw [if_pos h1, if_pos h1]; exact rE m a l hl k (i + 1) _ (by omega) (by omega)
      · rw [if_neg h1, if_neg h1]; exact rE m a l hl k (i + 1) _ (by omega) (by omega)
    · rw [if_neg (by omega), List.drop_eq_nil_of_le (by omega)]; rfl
theorem J4 (k : Nat) (a : Int) (l : List TSp) (m : Int) (hl : (l.length : Int) ≤ 1000000) (hk : l.length < k) : stratumref12_Find.f k a l m = some (kU l m) := by
  unfold stratumref12_Find.f
  rw [mO]
  exact rE m a l hl k 0 (-1) (by omega) (by omega)
/-- Is any member of the range another's, from v on, n members? -/
def oth (l : List TSp) (fr tt node : Int) : Int → Nat → Bool
  | _, 0 => false
  | v, n + 1 => (decide (fr ≤ v ∧ v < tt) && (kU l v != node)) || oth l fr tt node (v + 1) n
def rEnd (e : Int) (o : Bool) (L : List TSp) : Int × List TSp × Int := if o = true then (if (L.length : Int) > 40 then (0, [], 3) else (e, L, 0)) else (0, [], 120)
theorem rV (a size fr tt node e : Int) (l : List TSp) (hl : (l.length : Int) ≤ 1000000) (hsz : size ≤ 10000) :
    ∀ (n k : Nat) (o : Bool) (last v : Int) (out : List TSp), size = v + n → 0 ≤ v → 2 * n + l.length + 5 < k → (out.length : Int) ≤ v →
      stratumref12_Split.l0 k size fr tt node o last v a l e out = some (rEnd e (o || oth l fr tt node v n) (out ++ cn (mv l fr tt node) last v n))
  | 0, k, o, last, v, out, hs, hv, hk, ho => by
    obtain ⟨k, rfl⟩ : ∃ j, k = j + 1 := ⟨k - 1, by omega⟩
    rw [stratumref12_Split.l0, if_neg (by omega)]
    unfold rEnd
    simp only [oth, cn, Bool.or_false, List.append_nil]
    split
    · split <;> rfl
    · rfl
  | n + 1, k, o, last, v, out, hs, hv, hk, ho => by
    obtain ⟨k, rfl⟩ : ∃ j, k = j + 2 := ⟨k - 2, by omega⟩
    have ih := fun o last out h => rV a size fr tt node e l hl hsz n k o last (v + 1) out (by omega) (by omega) (by omega) h
    have hw : wrap64 (v + 1) = v + 1 := by unfold wrap64; omega
    rw [stratumref12_Split.l0, if_pos (by omega), J4 _ _ _ _ hl (by omega)]
    simp only [Option.bind_some, hw, oth, cn]
    by_cases hr : fr ≤ v ∧ v < tt
    · have hm : mv l fr tt node v = node := by unfold mv; rw [if_pos hr]
      rw [if_pos hr.1, decide_eq_true hr.2, stratumref12_Split.j2, if_pos rfl, hm, decide_eq_true hr]
      simp only [hw, Bool.true_and]
      cases o
      · rw [if_neg (by decide)]
        by_cases he : node = last
        · rw [if_pos he, if_pos he, ih _ _ _ (by omega), Bool.false_or]
        · rw [if_neg he, if_neg he, if_pos (by omega), ih _ _ _ (by simp; omega), Bool.false_or, List.append_assoc]; rfl
      · rw [if_pos rfl]
        by_cases he : node = last
        · rw [if_pos he, if_pos he, ih _ _ _ (by omega)]; simp
        · rw [if_neg he, if_neg he, if_pos (by omega), ih _ _ _ (by simp; omega), List.append_assoc]; simp
    · have hm : mv l fr tt node v = kU l v := by unfold mv; rw [if_neg hr]
      have hj : (if v ≥ fr then stratumref12_Split.j2 (k + 1) size fr tt node o last v (kU l v) (decide (v < tt)) a l e out else stratumref12_Split.j2 (k + 1) size fr tt node o last v (kU l v) false a l e out) = stratumref12_Split.j2 (k + 1) size fr tt node o last v (kU l v) false a l e out := by
        by_cases h1 : v ≥ fr
        · rw [if_pos h1, decide_eq_false (fun h2 => hr ⟨h1, h2⟩)]
        · rw [if_neg h1]
      rw [hj, stratumref12_Split.j2, if_neg (by decide), hm, decide_eq_false hr]
      simp only [hw, Bool.false_and, Bool.false_or]
      by_cases he : kU l v = last
      · rw [if_pos he, if_pos he, ih _ _ _ (by omega)]
      · rw [if_neg he, if_neg he, if_pos (by omega), ih _ _ _ (by simp; omega), List.append_assoc]; rfl
end Go.Proofs.Ytjppookmjdaplaa.K
end

section
namespace Go.Proofs.Ytjppookmjdaplaa.K
open Go Go.RowKit Go.Proofs.YtjppookmjdaplaaW.PrintWords Go.Proofs.YtjppookmjdaplaaW.PrintLast Go.Proofs.YtjppookmjdaplaaW.PrintMore
theorem JK (l : List TSp) (i : Nat) (h : i < l.length) : rdSp l (i : Int) = l[i] := nO l i h
theorem rU (a size nodes : Int) (l : List TSp) (hl : (l.length : Int) ≤ 1000000) (hn : 0 < l.length) :
    ∀ (k i : Nat), i + 1 ≤ l.length → 2 * (l.length - i) < k → stratumref12_Sound.l0 k size nodes ((i + 1 : Nat) : Int) a l = some (sndF size nodes (rdSp l i).f0 (rdSp l i).f1 (l.drop (i + 1)) && decide (l.length ≤ 40))
  | 0, _, _, h => by omega
  | 1, _, _, h => by omega
  | k + 2, i, hi, hki => by
    rw [stratumref12_Sound.l0]
    by_cases hlt : i + 1 < l.length
    · have hw : wrap64 (((i + 1 : Nat) : Int) - 1) = (i : Int) := by unfold wrap64; omega
      have hw2 : wrap64 (((i + 1 : Nat) : Int) + 1) = ((i + 2 : Nat) : Int) := by unfold wrap64; omega
      have hb : ∀ c, stratumref12_Sound.j1 (k + 1) size nodes ((i + 1 : Nat) : Int) true c l = some false := fun c => by rw [stratumref12_Sound.j1, if_pos rfl]
      rw [if_pos (by omega), if_pos (by omega), nO l (i + 1) hlt, drop_cons l (i + 1) hlt, JK l i (by omega)]
      rw [show sndF size nodes l[i].f0 l[i].f1 (l[i + 1] :: l.drop (i + 1 + 1)) = (!decide (l[i + 1].f0 ≤ l[i].f0) && !decide (l[i + 1].f0 ≥ size) && !decide (l[i + 1].f1 = l[i].f1) && !decide (l[i + 1].f1 < 0) && !decide (l[i + 1].f1 ≥ mn nodes 6) && sndF size nodes l[i + 1].f0 l[i + 1].f1 (l.drop (i + 1 + 1))) from rfl]
      by_cases h4 : l[i + 1].f1 < 0
      · rw [if_pos h4, hb]; simp [h4]
      rw [if_neg h4]
      by_cases h5 : l[i + 1].f1 ≥ mn nodes 6
      · rw [if_pos h5, hb]; simp [h5]
      rw [if_neg h5]
      by_cases h2 : l[i + 1].f0 ≥ size
      · rw [if_pos h2, hb]; simp [h2]
      rw [if_neg h2, if_neg (by omega), stratumref12_Sound.j1, if_neg (by decide), if_pos (by omega), if_pos (by omega), if_pos (by omega), hw, if_pos (by omega), if_pos (by omega), nO l (i + 1) hlt, nO l i (by omega)]
      by_cases h1 : l[i + 1].f0 ≤ l[i].f0
      · rw [if_pos h1]; simp [h1]
      rw [if_neg h1]
      by_cases h3 : l[i + 1].f1 = l[i].f1
      · rw [if_pos h3]; simp [h3]
      rw [if_neg h3, hw2, rU a size nodes l hl hn k (i + 1) (by omega) (by omega), JK l (i + 1) hlt]
      simp only [h1, h2, h3, h4, h5, decide_false, Bool.not_false, Bool.true_and]
    · rw [if_neg (by omega), if_pos (by omega), List.drop_eq_nil_of_le (by omega)]
      simp only [sndF, Bool.true_and]
      congr 1
      by_cases h : l.length ≤ 40
      · rw [decide_eq_true h, decide_eq_true (by omega)]
      · rw [decide_eq_false h, decide_eq_false (by omega)]
theorem zB (k : Nat) (a : Int) (l : List TSp) (size nodes : Int) (hl : (l.length : Int) ≤ 1000000) (hk : 2 * l.length + 5 < k) : stratumref12_Sound.f k a l size nodes = some (oG l size nodes) := by
  obtain ⟨k, rfl⟩ : ∃ j, k = j + 2 := ⟨k - 2, by omega⟩
  unfold stratumref12_Sound.f oG
  rw [stratumref12_Sound.l0]
  by_cases h0 : l.length = 0
  · rw [if_neg (by omega), if_neg (by omega)]; simp [h0]
  · obtain ⟨x, r, rfl⟩ : ∃ x r, l = x :: r := by
      cases l with
      | nil => simp at h0
      | cons x r => exact ⟨x, r, rfl⟩
    have hb : stratumref12_Sound.j1 (k + 1) size nodes 0 true a (x :: r) = some false := by rw [stratumref12_Sound.j1, if_pos rfl]
    have hx : jC (x :: r) 0 = x := rfl
    have hx' : rdSp (x :: r) 0 = x := rfl
    rw [if_pos (by simp), if_pos (by omega), hx, hx']
    rw [show sndF size nodes (-1) (-1) (x :: r) = (!decide (x.f0 ≤ -1) && !decide (x.f0 ≥ size) && !decide (x.f1 = -1) && !decide (x.f1 < 0) && !decide (x.f1 ≥ mn nodes 6) && sndF size nodes x.f0 x.f1 r) from rfl]
    by_cases h4 : x.f1 < 0
    · rw [if_pos h4, hb]; simp [h4]
    rw [if_neg h4]
    by_cases h5 : x.f1 ≥ mn nodes 6
    · rw [if_pos h5, hb]; simp [h5]
    rw [if_neg h5]
    by_cases h2 : x.f0 ≥ size
    · rw [if_pos h2, hb]; simp [h2]
    rw [if_neg h2, if_pos rfl, stratumref12_Sound.j1]
    by_cases h6 : x.f0 = 0
    · rw [if_neg (by simp [h6]), if_neg (by omega)]
      have := rU a size nodes (x :: r) hl (by simp) k 0 (by simp) (by simp at hk ⊢; omega)
      rw [show wrap64 (0 + 1) = ((0 + 1 : Nat) : Int) by unfold wrap64; omega, this, show rdSp (x :: r) ((0 : Nat) : Int) = x from rfl]
      have h7 : ¬ x.f1 = -1 := by omega
      have h8 : ¬ x.f0 ≤ -1 := by omega
      simp only [h2, h4, h5, h6, h7, h8, decide_false, decide_true, Bool.not_false, Bool.true_and, List.drop_succ_cons, List.drop_zero, Nat.zero_add, decide_eq_true h0, Bool.and_true, decide_not]
      have h9 : ¬ size ≤ 0 := by omega
      simp [h0, h9, Bool.and_comm]
    · rw [if_pos (by simp [h6])]; simp [h6]
end Go.Proofs.Ytjppookmjdaplaa.K
end

section
namespace Go.Proofs.Ytjppookmjdaplaa.K
open Go Go.RowKit Go.Proofs.YtjppookmjdaplaaW.PrintWords Go.Proofs.YtjppookmjdaplaaW.PrintLast Go.Proofs.YtjppookmjdaplaaW.PrintMore
theorem oN (l : List TSp) (fr tt node : Int) : ∀ (n : Nat) (v : Int), oth l fr tt node v n = true ↔ ∃ u, v ≤ u ∧ u < v + n ∧ fr ≤ u ∧ u < tt ∧ kU l u ≠ node
  | 0, v => by simp [oth]; intros; omega
  | n + 1, v => by
    simp only [oth, Bool.or_eq_true, Bool.and_eq_true, decide_eq_true_eq, bne_iff_ne, oN l fr tt node n (v + 1)]
    constructor
    · rintro (⟨⟨h1, h2⟩, h3⟩ | ⟨u, h1, h2, h3⟩)
      · exact ⟨v, by omega, by omega, h1, h2, h3⟩
      · exact ⟨u, by omega, by omega, h3⟩
    · rintro ⟨u, h1, h2, h3, h4, h5⟩
      by_cases hu : u = v
      · subst hu; exact .inl ⟨⟨h3, h4⟩, h5⟩
      · exact .inr ⟨u, by omega, by omega, h3, h4, h5⟩
theorem rQ {l : List TSp} {nodes fr tt node : Int} {n : Nat} (h : Snd l n nodes) (h0 : 0 ≤ fr) (h1 : fr < tt) (h2 : tt ≤ n) (h3 : 0 ≤ node) (h4 : node < mn nodes 6) (h5 : (n : Int) ≤ 10000) : pO l fr tt = [node] ↔ oth l fr tt node 0 n = false := by
  have e1 : loN fr = fr := by show mx fr 0 = fr; unfold mx; split <;> omega
  have e2 : hiN tt = tt := by show mn tt 10000 = tt; unfold mn; split <;> omega
  have e6 : mn nodes 6 ≤ 6 := by unfold mn; split <;> omega
  have hall : oth l fr tt node 0 n = false ↔ ∀ u, fr ≤ u → u < tt → kU l u = node := by
    constructor
    · intro ho u hu1 hu2
      cases hd : decide (kU l u = node)
      · have := (oN l fr tt node n 0).2 ⟨u, by omega, by omega, hu1, hu2, by simpa using hd⟩
        rw [ho] at this; cases this
      · simpa using hd
    · intro ha
      cases ho : oth l fr tt node 0 n
      · rfl
      · obtain ⟨u, _, _, hu1, hu2, hu3⟩ := (oN l fr tt node n 0).1 ho
        exact absurd (ha u hu1 hu2) hu3
  rw [hall]
  unfold pO
  rw [e1, e2]
  constructor
  · intro hl u hu1 hu2
    have hf := h.find u (by omega)
    have : kU l u ∈ ([0, 1, 2, 3, 4, 5] : List Int).filter (xM l fr tt) := List.mem_filter.2 ⟨by simp; omega, (oW l fr tt _).2 ⟨u, hu1, hu2, rfl⟩⟩
    rw [hl] at this
    simpa using this
  · intro ha
    have hb : xM l fr tt = fun x => decide (x = node) := by
      funext x
      cases hd : xM l fr tt x
      · symm
        rw [decide_eq_false_iff_not]
        rintro rfl
        have := (oW l fr tt x).2 ⟨fr, Int.le_refl _, h1, ha fr (Int.le_refl _) h1⟩
        rw [hd] at this; cases this
      · obtain ⟨u, hu1, hu2, rfl⟩ := (oW l fr tt x).1 hd
        simp [ha u hu1 hu2]
    rw [hb]
    have : node = 0 ∨ node = 1 ∨ node = 2 ∨ node = 3 ∨ node = 4 ∨ node = 5 := by omega
    rcases this with rfl | rfl | rfl | rfl | rfl | rfl <;> decide
end Go.Proofs.Ytjppookmjdaplaa.K
end

section
namespace Go.Proofs.Ytjppookmjdaplaa.K
open Go Go.RowKit Go.Proofs.YtjppookmjdaplaaW.PrintWords Go.Proofs.YtjppookmjdaplaaW.PrintLast Go.Proofs.YtjppookmjdaplaaW.PrintMore
theorem zY (k : Nat) (a : Int) (l : List TSp) (size nodes fr tt node : Int) (hl : (l.length : Int) ≤ 1000000) (hk : 20000 + 2 * l.length + 20 < k) : stratumref12_Split.f k a l size nodes fr tt node = some (mW a l size nodes fr tt node) := by
  obtain ⟨k, rfl⟩ : ∃ j, k = j + 1 := ⟨k - 1, by omega⟩
  have bad : ¬ okS l size nodes fr tt node → stratumref12_Split.j0 (k + 1) size fr tt node true a l = some (mW a l size nodes fr tt node) := fun h => by
    rw [stratumref12_Split.j0, if_pos rfl]
    unfold mW
    rw [if_neg (fun hh => h hh.1)]
  unfold stratumref12_Split.f
  rw [zB (k + 1) a l size nodes hl (by omega)]
  simp only [Option.bind_some]
  by_cases hs : oG l size nodes = true
  · rw [if_pos hs]
    by_cases h2 : fr < 0
    · rw [if_pos h2]; exact bad (fun h => by have := h.2.2.1; omega)
    rw [if_neg h2]
    by_cases h3 : fr ≥ tt
    · rw [if_pos h3]; exact bad (fun h => by have := h.2.2.2.1; omega)
    rw [if_neg h3]
    by_cases h4 : tt > size
    · rw [if_pos h4]; exact bad (fun h => by have := h.2.2.2.2.1; omega)
    rw [if_neg h4]
    by_cases h5 : node < 0
    · rw [if_pos h5]; exact bad (fun h => by have := h.2.2.2.2.2.1; omega)
    rw [if_neg h5]
    by_cases h6 : node ≥ mn nodes 6
    · rw [if_pos h6]; exact bad (fun h => by have := h.2.2.2.2.2.2; omega)
    rw [if_neg h6]
    by_cases h1 : size > 10000
    · rw [decide_eq_true h1]; exact bad (fun h => by have := h.2.1; omega)
    rw [decide_eq_false h1, stratumref12_Split.j0, if_neg (by decide)]
    have hok : okS l size nodes fr tt node := ⟨hs, by omega, by omega, by omega, by omega, by omega, by omega⟩
    obtain ⟨n, hn⟩ : ∃ n : Nat, size = n := ⟨size.toNat, by omega⟩
    subst hn
    have hsnd := MH hs
    have h7 := rV a n fr tt node ((a + 1) % 4294967296) l hl (by omega) n k false (-1) 0 [] (by omega) (by omega) (by omega) (by simp)
    rw [h7, Bool.false_or, List.nil_append]
    have h8 := rQ hsnd (by omega : 0 ≤ fr) (by omega : fr < tt) (by omega) (by omega : 0 ≤ node) (by omega) (by omega)
    have h9 := vV hsnd (by omega : 0 ≤ fr) (by omega : fr < tt) (by omega) (by omega : 0 ≤ node)
    unfold mW rEnd
    by_cases ho : oth l fr tt node 0 n = true
    · rw [if_pos ho, if_pos (show okS l n nodes fr tt node ∧ pO l fr tt ≠ [node] from ⟨hok, fun e => by rw [h8.1 e] at ho; cases ho⟩)]
      unfold IL
      rw [h9]
    · rw [if_neg ho, if_neg (fun hh : okS l n nodes fr tt node ∧ pO l fr tt ≠ [node] => hh.2 (h8.2 (by simpa using ho)))]
  · rw [if_neg hs]; exact bad (fun h => hs h.1)
end Go.Proofs.Ytjppookmjdaplaa.K
end

section
namespace Go.Proofs.Ytjppookmjdaplaa.K
open Go Go.RowKit Go.Proofs.YtjppookmjdaplaaW.PrintWords Go.Proofs.YtjppookmjdaplaaW.PrintLast Go.Proofs.YtjppookmjdaplaaW.PrintMore
theorem JM (xs : List TSp) : ∀ m, (glN xs m).length ≤ m
  | 0 => by simp [glN]
  | m + 1 => by
    have := JM xs m
    unfold glN
    split
    · omega
    · simp; omega
theorem I4 (f : Int → Int) : ∀ (n : Nat) (v d : Int), Ris v (v + n) d (cn f d v n)
  | 0, _, _ => trivial
  | n + 1, v, d => by
    unfold cn
    have hs : ∀ d, Ris v (v + ((n + 1 : Nat) : Int)) d (cn f d (v + 1) n) := fun d => by
      have h := I4 f n (v + 1) d
      rw [show v + 1 + (n : Int) = v + ((n + 1 : Nat) : Int) by omega] at h
      exact h.weak (fun x hx => by have := (h.lo x hx).1; omega)
    by_cases h : f v = d
    · rw [if_pos h]; exact hs d
    · rw [if_neg h]
      have h1 := I4 f n (v + 1) (f v)
      rw [show v + 1 + (n : Int) = v + ((n + 1 : Nat) : Int) by omega] at h1
      exact ⟨Int.le_refl _, by show v < _; omega, h, h1⟩
theorem IC (f : Int → Int) : ∀ (n : Nat) (v d : Int) (x : TSp), x ∈ cn f d v n → v ≤ x.f0 ∧ x.f0 < v + n ∧ x.f1 = f x.f0
  | 0, _, _, _, h => by simp [cn] at h
  | n + 1, v, d, x, h => by
    unfold cn at h
    by_cases hd : f v = d
    · rw [if_pos hd] at h
      have := IC f n (v + 1) d x h
      omega
    · rw [if_neg hd] at h
      rcases List.mem_cons.1 h with rfl | h
      · exact ⟨Int.le_refl _, by show v < _; omega, rfl⟩
      · have := IC f n (v + 1) _ x h
        omega
/-- Where nodes turn is a sound map. -/
theorem MP (f : Int → Int) (n : Nat) (nodes : Int) (h0 : 0 < n) (hf : ∀ u, 0 ≤ u → u < (n : Int) → 0 ≤ f u ∧ f u < mn nodes 6) (hl : (cn f (-1) 0 n).length ≤ 40) : Snd (cn f (-1) 0 n) n nodes := by
  obtain ⟨n, rfl⟩ : ∃ m, n = m + 1 := ⟨n - 1, by omega⟩
  have h1 : cn f (-1) 0 (n + 1) = ⟨0, f 0⟩ :: cn f (f 0) (0 + 1) n := by
    have := hf 0 (by omega) (by omega)
    rw [cn, if_neg (by omega)]
  refine ⟨hl, by have := I4 f (n + 1) 0 (-1); rwa [Int.zero_add] at this, fun x hx => ?_, by rw [h1]; simp, by rw [h1]; rfl⟩
  obtain ⟨a, b, c⟩ := IC f _ _ _ x hx
  rw [c]
  exact hf _ a (by omega)
/-- At first all are one node's. -/
theorem MB (n : Nat) (nodes : Int) (h0 : 0 < n) (h1 : 1 ≤ nodes) : Snd [(⟨0, 0⟩ : TSp)] n nodes := by
  refine ⟨by simp, ⟨Int.le_refl _, by show (0 : Int) < n; omega, by show (0 : Int) ≠ -1; omega, trivial⟩, fun x hx => ?_, by simp, rfl⟩
  simp at hx; subst hx
  refine ⟨Int.le_refl _, ?_⟩
  show (0 : Int) < mn nodes 6
  unfold mn; split <;> omega
/-- What a split makes of a sound map: it is refused and nothing; or it is the next one. -/
theorem uB {l : List TSp} {nodes fr tt node : Int} {n : Nat} (a : Int) (h : Snd l n nodes) (h0 : 0 ≤ fr) (h1 : fr < tt) (h2 : tt ≤ n) (h3 : 0 ≤ node) (h4 : node < mn nodes 6) (h5 : (n : Int) ≤ 10000) :
    (mW a l n nodes fr tt node = (0, [], 120) ∧ (∀ u, fr ≤ u → u < tt → kU l u = node)) ∨
    ((∃ u, fr ≤ u ∧ u < tt ∧ kU l u ≠ node) ∧
      ((mW a l n nodes fr tt node = (0, [], 3) ∧ 40 < (cn (mv l fr tt node) (-1) 0 n).length ∧ 39 ≤ l.length) ∨
       (mW a l n nodes fr tt node = ((a + 1) % 4294967296, cn (mv l fr tt node) (-1) 0 n, 0) ∧ Snd (cn (mv l fr tt node) (-1) 0 n) n nodes))) := by
  have h8 := rQ h h0 h1 h2 h3 h4 h5
  have h9 := vV h h0 h1 h2 h3
  have hok : okS l n nodes fr tt node := ⟨ML h, h5, h0, h1, h2, h3, h4⟩
  by_cases ho : oth l fr tt node 0 n = true
  · right
    obtain ⟨u, _, _, k1, k2, k3⟩ := (oN l fr tt node n 0).1 ho
    refine ⟨⟨u, k1, k2, k3⟩, ?_⟩
    have hs : mW a l n nodes fr tt node = IL a (o8 l n tt (l.filter (fun x => decide (x.f0 < fr)) ++ [⟨fr, node⟩])) := by
      unfold mW
      rw [if_pos ⟨hok, fun e => by rw [h8.1 e] at ho; cases ho⟩]
    rw [hs]
    unfold IL
    rw [h9]
    by_cases hg : (((cn (mv l fr tt node) (-1) 0 n).length : Nat) : Int) > 40
    · rw [if_pos hg]
      refine .inl ⟨rfl, by omega, ?_⟩
      have hle : (cn (mv l fr tt node) (-1) 0 n).length ≤ (o8 l n tt (l.filter (fun x => decide (x.f0 < fr)) ++ [⟨fr, node⟩])).length := by rw [← h9]; exact JM _ _
      have hmid : (o8 l n tt (l.filter (fun x => decide (x.f0 < fr)) ++ [⟨fr, node⟩])).length ≤ l.length + 2 := by
        have ha := lX fr h.ris.asc
        have hb : (l.filter (fun x => decide (x.f0 > tt))).length ≤ (l.filter (fun x => decide (fr ≤ x.f0))).length := by
          refine List.Sublist.length_le ?_
          have : l.filter (fun x => decide (x.f0 > tt)) = (l.filter (fun x => decide (fr ≤ x.f0))).filter (fun x => decide (x.f0 > tt)) := by
            rw [List.filter_filter]
            refine List.filter_congr (fun x _ => ?_)
            by_cases hx : x.f0 > tt
            · have : fr ≤ x.f0 := by omega
              simp [hx, this]
            · simp [hx]
          rw [this]
          exact List.filter_sublist
        have hc := congrArg List.length ha
        rw [List.length_append] at hc
        unfold o8
        split <;> simp only [List.length_append, List.length_cons, List.length_nil] <;> omega
      omega
    · rw [if_neg hg]
      refine .inr ⟨rfl, MP _ n nodes (by omega) (fun u hu1 hu2 => ?_) (by omega)⟩
      unfold mv
      split
      · exact ⟨h3, h4⟩
      · exact h.find u hu1
  · left
    have ho' : oth l fr tt node 0 n = false := by simpa using ho
    refine ⟨by unfold mW; rw [if_neg (fun hh : okS l n nodes fr tt node ∧ pO l fr tt ≠ [node] => hh.2 (h8.2 ho'))], fun u k1 k2 => ?_⟩
    cases hd : decide (kU l u = node)
    · have := (oN l fr tt node n 0).2 ⟨u, by omega, by omega, k1, k2, by simpa using hd⟩
      rw [ho'] at this; cases this
    · simpa using hd
end Go.Proofs.Ytjppookmjdaplaa.K
end
