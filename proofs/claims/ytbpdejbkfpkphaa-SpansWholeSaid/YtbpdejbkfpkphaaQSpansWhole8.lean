/- Parts of the proof, one behind the other: K42, K46, SpH. -/
import Derived.Test.YtbpdejbkfpkphaaQSpansWhole7
set_option linter.unusedVariables false
set_option linter.unusedSimpArgs false
section
namespace Go.Proofs.Ytbpdejbkfpkphaa.K
open Go.RowKit Go.Proofs.YtbpdejbkfpkphaaW.PrintWords Go.Proofs.YtbpdejbkfpkphaaW.PrintLast Go.Proofs.YtbpdejbkfpkphaaW.PrintMore
attribute [local go_sem] jU jT jZ jY jO jP jW jV
mutual
def stratumlaw12_Of.l0 : Nat → Int → Int → List (S55) → Int → Int → List (S60) → Option (Int × (List (S60)))
  | 0, _, _, _, _, _, _ => none
  | k + 1, x0, x1, x2, x8, x365000, x365001 => if x8 < (x2.length : Int) then (stratumlaw12_Of.j1 k x0 x1 x2 x8 (decide (x8 < 30)) x365000 x365001) else (stratumlaw12_Of.j1 k x0 x1 x2 x8 false x365000 x365001)
def stratumlaw12_Of.j1 : Nat → Int → Int → List (S55) → Int → Bool → Int → List (S60) → Option (Int × (List (S60)))
  | 0, _, _, _, _, _, _, _ => none
  | k + 1, x0, x1, x2, x8, x21, x365000, x365001 => if x21 = true then (if 0 ≤ x8 then (if x8 < (x2.length : Int) then (if x0 = 0 then (none) else (if (wrap64 (x0 - (Int.tmod (wrap64 ((jF x2 x8).f0)) x0))) = 0 then (none) else (if x1 = 0 then (none) else ((stratumref12_Split.f k x365000 x365001 x0 x1 (Int.tmod (wrap64 ((jF x2 x8).f0)) x0) (wrap64 ((wrap64 ((Int.tmod (wrap64 ((jF x2 x8).f0)) x0) + 1)) + (Int.tmod (wrap64 ((jF x2 x8).f1)) (wrap64 (x0 - (Int.tmod (wrap64 ((jF x2 x8).f0)) x0)))))) (Int.tmod (wrap64 ((jF x2 x8).f2)) x1)).bind fun bt368 => (if bt368.2.2 = 0 then (stratumlaw12_Of.l0 k x0 x1 x2 (wrap64 (x8 + 1)) bt368.1 bt368.2.1) else (stratumlaw12_Of.l0 k x0 x1 x2 (wrap64 (x8 + 1)) x365000 x365001)))))) else (none)) else (none)) else (some (x365000, x365001))
end
def stratumlaw12_Of.f (k : Nat) (a0 : Int) (a1 : Int) (l2 : List (S55)) : Option (Int × (List (S60))) := (stratumref12_New.f).bind fun bt360 => (stratumlaw12_Of.l0 k a0 a1 l2 0 bt360.1 bt360.2)
theorem stratumlaw12_Of.mono_l : ∀ k, (∀ y0 y1 y2 y3 y4 y5, LeO (stratumlaw12_Of.l0 k y0 y1 y2 y3 y4 y5) (stratumlaw12_Of.l0 (k + 1) y0 y1 y2 y3 y4 y5)) ∧ (∀ y0 y1 y2 y3 y4 y5 y6, LeO (stratumlaw12_Of.j1 k y0 y1 y2 y3 y4 y5 y6) (stratumlaw12_Of.j1 (k + 1) y0 y1 y2 y3 y4 y5 y6))
  | 0 => ⟨fun _ _ _ _ _ _ r h => by simp [stratumlaw12_Of.l0] at h, fun _ _ _ _ _ _ _ r h => by simp [stratumlaw12_Of.j1] at h⟩
  | k + 1 => by
    obtain ⟨ih0, ih1⟩ := stratumlaw12_Of.mono_l k
    refine ⟨?_, ?_⟩
    · intro y0 y1 y2 y3 y4 y5
      unfold stratumlaw12_Of.l0
      repeat' first
      | (with_reducible exact ih0 _ _ _ _ _ _)
      | (with_reducible exact ih1 _ _ _ _ _ _ _)
      | (with_reducible exact stratumref12_Split.mono _ _ _ _ _ _ _ _)
      | (with_reducible exact LeO.refl _)
      | (with_reducible exact LeO.none _)
      | (with_reducible refine LeO.ite ?_ ?_)
      | (with_reducible refine LeO.bind ?_ (fun _ => ?_))
      | exact ih0 _ _ _ _ _ _
      | exact ih1 _ _ _ _ _ _ _
      | exact stratumref12_Split.mono _ _ _ _ _ _ _ _
      | exact LeO.none _
      | refine LeO.ite ?_ ?_
      | refine LeO.bind ?_ (fun _ => ?_)
    · intro y0 y1 y2 y3 y4 y5 y6
      unfold stratumlaw12_Of.j1
      repeat' first
      | (with_reducible exact ih0 _ _ _ _ _ _)
      | (with_reducible exact ih1 _ _ _ _ _ _ _)
      | (with_reducible exact stratumref12_Split.mono _ _ _ _ _ _ _ _)
      | (with_reducible exact LeO.refl _)
      | (with_reducible exact LeO.none _)
      | (with_reducible refine LeO.ite ?_ ?_)
      | (with_reducible refine LeO.bind ?_ (fun _ => ?_))
      | exact ih0 _ _ _ _ _ _
      | exact ih1 _ _ _ _ _ _ _
      | exact stratumref12_Split.mono _ _ _ _ _ _ _ _
      | exact LeO.none _
      | refine LeO.ite ?_ ?_
      | refine LeO.bind ?_ (fun _ => ?_)
theorem stratumlaw12_Of.mono : ∀ a0 a1 a2 k, LeO (stratumlaw12_Of.f k a0 a1 a2) (stratumlaw12_Of.f (k + 1) a0 a1 a2) := by
  intro a0 a1 a2 k
  obtain ⟨ih0, ih1⟩ := stratumlaw12_Of.mono_l k
  unfold stratumlaw12_Of.f
  repeat' first
      | (with_reducible exact ih0 _ _ _ _ _ _)
      | (with_reducible exact ih1 _ _ _ _ _ _ _)
      | (with_reducible exact stratumref12_Split.mono _ _ _ _ _ _ _ _)
      | (with_reducible exact LeO.refl _)
      | (with_reducible exact LeO.none _)
      | (with_reducible refine LeO.ite ?_ ?_)
      | (with_reducible refine LeO.bind ?_ (fun _ => ?_))
      | exact ih0 _ _ _ _ _ _
      | exact ih1 _ _ _ _ _ _ _
      | exact stratumref12_Split.mono _ _ _ _ _ _ _ _
      | exact LeO.none _
      | refine LeO.ite ?_ ?_
      | refine LeO.bind ?_ (fun _ => ?_)
def stratumlaw12_Of.T7 : Bool × List (List Nat × List Nat) := (true, [([], []), ([], []), ([], []), ([], []), ([], []), ([], []), ([], []), ([5, 6], [5, 6]), ([7], [7]), ([8], [8]), ([9], [9]), ([], []), ([10, 11], [10, 11]), ([0, 1, 2, 3, 4, 12], [0, 1, 2, 3, 4, 12]), ([13], [13]), ([14], [14]), ([14], [14]), ([], []), ([17, 15, 13, 0, 1, 2, 3, 4, 5, 6, 7, 8, 9, 10, 11, 12, 13, 14, 15, 17], [15, 17]), ([16, 18, 0, 1, 2, 3, 4, 5, 6, 7, 8, 9, 10, 11, 12, 13, 14, 15, 16, 17, 18], [16])])
def stratumlaw12_Of.B7 : List Nat := [0, 0, 0, 0, 0, 0, 0, 96, 224, 480, 992, 0, 4064, 8191, 16383, 32767, 32767, 0, 196607, 524287]
theorem stratumlaw12_Of.tab7 : rtab .any (opsOf Try.f24 7) = stratumlaw12_Of.T7 := by kernel_rfl
theorem stratumlaw12_Of.bits7 : lU stratumlaw12_Of.T7.2 stratumlaw12_Of.B7 = true := by kernel_rfl
set_option maxHeartbeats 8000000 in
set_option maxRecDepth 100000 in
theorem stratumlaw12_Of.calls (k : Nat) (a0 : Int) (a1 : Int) (A2 : Option Addr) (c2 : Nat) (l2 : List (S55)) (r1 : Int) (r2 : List (S60)) (w : World) (hr2 : Kd.C k55 w A2 l2.length l2) (hc2 : l2.length ≤ c2) (h : stratumlaw12_Of.f k a0 a1 l2 = some (r1, r2)) :
    Calls Try.prog 24 #[.int .i64 a0, .int .i64 a1, .slice A2 l2.length c2] w fun e w' => ∃ v1_ : Value, e = .returned (.agg #[.int .u32 r1, v1_]) ∧ Kd.R k60 60 w' w.heap.size (fun _ => True) v1_ r2 ∧ Below w.heap.size w w' := by
  have hu42 := Try.underlying42
  have HR2 := iC.mk hr2
  have HC2 := iC.mk hc2
  clear hr2 hc2
  have HB := iC.mk (Below.refl w.heap.size w)
  have H : ((stratumref12_New.f).bind fun bt360 => (stratumlaw12_Of.l0 k a0 a1 l2 0 bt360.1 bt360.2)) = some (r1, r2) := h
  clear h
  replace H := Option.bind_eq_some_iff.mp H
  obtain ⟨⟨t360, t361⟩, A40, H⟩ := H
  replace H : (stratumlaw12_Of.l0 k a0 a1 l2 0 t360 t361) = some (r1, r2) := H
  have A4 := iC.mk A40
  clear A40
  have H' := iC.mk H
  clear H
  go_enter Try.func24, Try.ntmps24
  go_wp2_with (first | ((with_reducible refine jC (N := 6) rfl ?_); refine jA ?hg (N := 6) ?hd (cs := #[.int .u32 0, .slice none 0 0]) (t := 42) ?hr ?_; (case hd => rfl); (case hg => rfl); (case hr => first | (go_simp; done) | (go_simp; rfl)); intro gb359 hg w5 hbox hb; have n0_ := iC.mk (iK hb_ hb); have n1_ := iC.mk (hbox); have n2_ := iC.mk ((by rw [hg]; exact (iJ hb_) : w.heap.size ≤ gb359)); have n3_ := iC.mk ((by rw [hg]; exact (iJ hb_) : w.heap.size ≤ gb359)); clear HB; have HB := n0_; have BK359 := n1_; have GW359 := n2_; have GE359 := n3_; clear n0_ n1_ n2_ n3_; clear hb hbox hg) | ((with_reducible refine iU (f := 61) rfl ?_); refine jJ (some 13) rfl rfl Try.func61 (by kernel_rfl) rfl #[] rfl (by (try simp only [List.map_toArray, List.map_cons, List.map_nil]); first | done | rfl | (simp only [List.length_drop, List.length_take]; rfl)) ?_; (with_reducible refine (stratumref12_New.calls  t360 t361 _ A4.out).mono ?_); rintro e w6 ⟨v362, rfl, ho0, hb⟩; refine ⟨_, rfl, ?_⟩; have n0_ := iC.mk (Kd.R_lower ho0 (iJ (by repeat (first | (with_reducible first | exact HB.out | apply iF | apply iD | apply iG | refine iE ?_ GE359.out) | exact HB.out)))); have n1_ := iC.mk (iP (g := gb359) (o := .cells #[.int .u32 0, .slice none 0 0] 42 (0, 0)) (bk_ BK359.out) hb); have n2_ := iC.mk (iK (by repeat (first | (with_reducible first | exact HB.out | apply iF | apply iD | apply iG | refine iE ?_ GE359.out) | exact HB.out)) hb); clear BK359; clear HB; have HO363 := n0_; have BK359 := n1_; have HB := n2_; clear n0_ n1_ n2_; (try clear hb); (try clear hb2); (try clear hk); (try clear hi); (try clear ho0)) | ((with_reducible refine jC (N := 7) rfl ?_); refine jA ?hg (N := 7) ?hd (cs := #[.int .u32 0, .slice none 0 0]) (t := 42) ?hr ?_; (case hd => rfl); (case hg => rfl); (case hr => first | (go_simp; done) | (go_simp; rfl)); intro gb364 hg w7 hbox hb; have n0_ := iC.mk (Kd.R_below (by (with_reducible repeat (first | apply Kd.R_alloc | apply Kd.R_drewN | apply Kd.R_drew)); exact HO363.out) hb); have n1_ := iC.mk (iP (g := gb359) (o := .cells #[.int .u32 0, .slice none 0 0] 42 (0, 0)) (bk_ BK359.out) hb); have n2_ := iC.mk (iK (by repeat (first | (with_reducible first | exact HB.out | apply iF | apply iD | apply iG | refine iE ?_ GE359.out) | exact HB.out)) hb); have n3_ := iC.mk (hbox); have n4_ := iC.mk ((by rw [hg]; exact (iJ (by repeat (first | (with_reducible first | exact HB.out | apply iF | apply iD | apply iG | refine iE ?_ GE359.out) | exact HB.out))) : w.heap.size ≤ gb364)); have n5_ := iC.mk ((by rw [hg]; exact (iJ (by repeat (first | (with_reducible first | exact HB.out | apply iF | apply iD | apply iG | refine iE ?_ GE359.out) | exact HB.out))) : w.heap.size ≤ gb364)); have n6_ := iC.mk ((by rw [hg]; exact Nat.ne_of_lt (jE (g := gb359) (o := .cells #[.int .u32 0, .slice none 0 0] 42 (0, 0)) (bk_ BK359.out)) : gb359 ≠ gb364)); have n7_ := iC.mk ((by rw [hg]; exact Nat.ne_of_gt (jE (g := gb359) (o := .cells #[.int .u32 0, .slice none 0 0] 42 (0, 0)) (bk_ BK359.out)) : gb364 ≠ gb359)); clear HO363; clear BK359; clear HB; have HO363 := n0_; have BK359 := n1_; have HB := n2_; have BK364 := n3_; have GW364 := n4_; have GE364 := n5_; have NB359_364 := n6_; have NB364_359 := n7_; clear n0_ n1_ n2_ n3_ n4_ n5_ n6_ n7_; clear hb hbox hg; have hnb8 := NB364_359.out; have hnc8 := NB359_364.out; have hcz9_0 : w7.cell? ⟨gb364, 0, none⟩ = some (.int .u32 0) := (iI BK364.out 0).trans rfl; have hcz9_1 : w7.cell? ⟨gb364, 1, none⟩ = some (.slice none 0 0) := (iI BK364.out 1).trans rfl; have hfz9_0 := iH BK364.out 0; have hfz9_1 := iH BK364.out 1; obtain ⟨Ao10, co10, eo10⟩ := Kd.R_slice HO363.out; subst eo10))
  go_loopg [8] k (fun kq v8 w' => ∃ (x8_1 : Int) (x365000_1 : Int) (x365001_1 : List (S60)) (u365001 : Value), v8 = .int .i64 x8_1 ∧ iC (stratumlaw12_Of.l0 kq a0 a1 l2 x8_1 x365000_1 x365001_1 = some (r1, r2)) ∧ iC (kq ≤ k) ∧ iC (Kd.R k60 60 w' w.heap.size (fun _ => True) u365001 x365001_1) ∧ iC (w'.heap[gb359]? = some (.cells #[.int .u32 0, (.slice none 0 0)] 42 (0, 0))) ∧ iC (w'.heap[gb364]? = some (.cells #[.int .u32 x365000_1, u365001] 42 (0, 0))) ∧ iC (Below w.heap.size w w'))
  case atStart => exact ⟨(0), (t360), (t361), (.slice Ao10 t361.length co10), (by first | rfl | (simp; done) | (simp [*]; done)), H', ⟨Nat.le_refl _⟩, ⟨by (with_reducible repeat (first | apply Kd.R_alloc | apply Kd.R_drewN | apply Kd.R_drew)); exact Kd.R_mono (Kd.R_far (p := ⟨gb364, 1, none⟩) (Kd.R_far (p := ⟨gb364, 0, none⟩) (Kd.R_types HO363.out BK364.out (by decide)) (fun _ hk => hk.2) (.int .u32 t360)) (fun _ hk => hk.2) (.slice Ao10 t361.length co10)) (fun _ hk => trivial)⟩, ⟨by (with_reducible repeat (first | refine iM ?_ _ | refine iO ?_ | refine iL ?_ _)); refine jH ?_ NB359_364.out _; (with_reducible repeat (first | refine iM ?_ _ | refine iO ?_ | refine iL ?_ _)); refine jH ?_ NB359_364.out _; (with_reducible repeat (first | refine iM ?_ _ | refine iO ?_ | refine iL ?_ _)); exact BK359.out⟩, ⟨by (with_reducible repeat (first | refine iM ?_ _ | refine iO ?_ | refine iL ?_ _)); refine jD (cs := #[.int .u32 t360, .slice none 0 0]) ?_ 1 _ rfl; (with_reducible repeat (first | refine iM ?_ _ | refine iO ?_ | refine iL ?_ _)); refine jD (cs := #[.int .u32 0, .slice none 0 0]) ?_ 0 _ rfl; (with_reducible repeat (first | refine iM ?_ _ | refine iO ?_ | refine iL ?_ _)); exact BK364.out⟩, ⟨by repeat (first | (with_reducible first | exact HB.out | apply iF | apply iD | apply iG | refine iE ?_ GE359.out | refine iE ?_ GE364.out) | exact HB.out)⟩⟩
  case round =>
    clear H'
    try clear c2
    try clear p2
    try clear c6
    try clear c8
    try clear hcz9_0
    try clear hcz9_1
    try clear hfz9_0
    try clear hfz9_1
    obtain ⟨x8_1, x365000_1, x365001_1, u365001, rfl, HA, HK1, HO_365001, BK359, BK364, HB⟩ := hrel
    cases gk with
    | zero => exact absurd HA.out (by simp [stratumlaw12_Of.l0])
    | succ k1 =>
      have H := HA.out
      clear HA
      simp only [stratumlaw12_Of.l0] at H
      have HC11 := iC.mk H
      clear H
      go_upto_region 3 with (fail)
      go_cut [21] (fun v21 wc => ∃ (kq : Nat) (x21_10 : Bool), v21 = .bool x21_10 ∧ iC (stratumlaw12_Of.j1 kq a0 a1 l2 x8_1 x21_10 x365000_1 x365001_1 = some (r1, r2)) ∧ iC (kq ≤ k1) ∧ iC (Kd.R k60 60 wc w.heap.size (fun _ => True) u365001 x365001_1) ∧ iC (wc.heap[gb359]? = some (.cells #[.int .u32 0, (.slice none 0 0)] 42 (0, 0))) ∧ iC (wc.heap[gb364]? = some (.cells #[.int .u32 x365000_1, u365001] 42 (0, 0))) ∧ iC (Below w.heap.size w wc))
      case first =>
        have H := HC11.out
        clear HC11
        by_cases c12 : x8_1 < (l2.length : Int)
        · rw [if_pos c12] at H
          have c12b0 : decide (x8_1 < (l2.length : Int)) = true := decide_eq_true c12
          clear c12
          (first | rw [c12b0] | (simp only [iY, iZ]; rw [c12b0]) | skip)
          have H' := iC.mk H
          clear H
          go_wp2
          go_meet
          case rel => exact ⟨_, (decide (x8_1 < 30)), (by first | rfl | (simp; done) | (simp [*]; done)), H', ⟨by have := HK1.out; first | omega | exact Nat.le_refl _⟩, ⟨by (with_reducible repeat (first | apply Kd.R_alloc | apply Kd.R_drewN | apply Kd.R_drew)); exact HO_365001.out⟩, ⟨bk_ BK359.out⟩, ⟨bk_ BK364.out⟩, ⟨by repeat (first | (with_reducible first | exact HB.out | apply iF | apply iD | apply iG | refine iE ?_ GE359.out | refine iE ?_ GE364.out) | exact HB.out)⟩⟩
        · rw [if_neg c12] at H
          have c12b0 : decide (x8_1 < (l2.length : Int)) = false := decide_eq_false c12
          clear c12
          (first | rw [c12b0] | (simp only [iY, iZ]; rw [c12b0]) | skip)
          have H' := iC.mk H
          clear H
          go_wp2
          go_meet
          case rel => exact ⟨_, (false), (by first | rfl | (simp; done) | (simp [*]; done)), H', ⟨by have := HK1.out; first | omega | exact Nat.le_refl _⟩, ⟨by (with_reducible repeat (first | apply Kd.R_alloc | apply Kd.R_drewN | apply Kd.R_drew)); exact HO_365001.out⟩, ⟨bk_ BK359.out⟩, ⟨bk_ BK364.out⟩, ⟨by repeat (first | (with_reducible first | exact HB.out | apply iF | apply iD | apply iG | refine iE ?_ GE359.out | refine iE ?_ GE364.out) | exact HB.out)⟩⟩
      case rest =>
        clear HC11
        try clear c1
        try clear c2
        try clear p2
        try clear c6
        try clear c8
        try clear c12
        try clear c12b0
        try clear hcz9_0
        try clear hcz9_1
        try clear hfz9_0
        try clear hfz9_1
        try clear p2
        obtain ⟨kq, x21_10, rfl, HA, HJ10, HO_365001, BK359, BK364, HB⟩ := hcut
        cases kq with
        | zero => exact absurd HA.out (by simp [stratumlaw12_Of.j1])
        | succ kj10 =>
          have H := HA.out
          clear HA
          simp only [stratumlaw12_Of.j1] at H
          by_cases c13 : x21_10 = true
          · subst c13
            have H1 : (if 0 ≤ x8_1 then (if x8_1 < (l2.length : Int) then (if a0 = 0 then (none) else (if (wrap64 (a0 - (Int.tmod (wrap64 ((jF l2 x8_1).f0)) a0))) = 0 then (none) else (if a1 = 0 then (none) else ((stratumref12_Split.f kj10 x365000_1 x365001_1 a0 a1 (Int.tmod (wrap64 ((jF l2 x8_1).f0)) a0) (wrap64 ((wrap64 ((Int.tmod (wrap64 ((jF l2 x8_1).f0)) a0) + 1)) + (Int.tmod (wrap64 ((jF l2 x8_1).f1)) (wrap64 (a0 - (Int.tmod (wrap64 ((jF l2 x8_1).f0)) a0)))))) (Int.tmod (wrap64 ((jF l2 x8_1).f2)) a1)).bind fun bt368 => (if bt368.2.2 = 0 then (stratumlaw12_Of.l0 kj10 a0 a1 l2 (wrap64 (x8_1 + 1)) bt368.1 bt368.2.1) else (stratumlaw12_Of.l0 kj10 a0 a1 l2 (wrap64 (x8_1 + 1)) x365000_1 x365001_1)))))) else (none)) else (none)) = some (r1, r2) := by rw [if_pos rfl] at H; exact H
            clear H
            have H := H1
            clear H1
            by_cases c14 : 0 ≤ x8_1
            · rw [if_pos c14] at H
              have c14b0 : decide (0 ≤ x8_1) = true := decide_eq_true c14
              clear c14
              by_cases c15 : x8_1 < (l2.length : Int)
              · rw [if_pos c15] at H
                have c15b0 : decide (x8_1 < (l2.length : Int)) = true := decide_eq_true c15
                clear c15
                by_cases c16 : a0 = 0
                · rw [if_pos c16] at H
                  exact absurd H (by simp)
                · rw [if_neg c16] at H
                  have c16b0 : (a0 == 0) = false := beq_eq_false_iff_ne.mpr c16
                  have c16b1 : (a0 != 0) = true := bne_iff_ne.mpr c16
                  by_cases c17 : (wrap64 (a0 - (Int.tmod (wrap64 ((jF l2 x8_1).f0)) a0))) = 0
                  · rw [if_pos c17] at H
                    exact absurd H (by simp)
                  · rw [if_neg c17] at H
                    have c17b0 : ((wrap64 (a0 - (Int.tmod (wrap64 ((jF l2 x8_1).f0)) a0))) == 0) = false := beq_eq_false_iff_ne.mpr c17
                    have c17b1 : ((wrap64 (a0 - (Int.tmod (wrap64 ((jF l2 x8_1).f0)) a0))) != 0) = true := bne_iff_ne.mpr c17
                    by_cases c18 : a1 = 0
                    · rw [if_pos c18] at H
                      exact absurd H (by simp)
                    · rw [if_neg c18] at H
                      have c18b0 : (a1 == 0) = false := beq_eq_false_iff_ne.mpr c18
                      have c18b1 : (a1 != 0) = true := bne_iff_ne.mpr c18
                      replace H := Option.bind_eq_some_iff.mp H
                      obtain ⟨⟨t368, t369, t372⟩, A190, H⟩ := H
                      replace H : (if t372 = 0 then (stratumlaw12_Of.l0 kj10 a0 a1 l2 (wrap64 (x8_1 + 1)) t368 t369) else (stratumlaw12_Of.l0 kj10 a0 a1 l2 (wrap64 (x8_1 + 1)) x365000_1 x365001_1)) = some (r1, r2) := H
                      have A19 := iC.mk A190
                      clear A190
                      by_cases c20 : t372 = 0
                      · rw [if_pos c20] at H
                        have c20b0 : (t372 == 0) = true := beq_iff_eq.mpr c20
                        have c20b1 : (t372 != 0) = false := bne_eq_false_iff_eq.mpr c20
                        clear c20
                        have H' := iC.mk H
                        clear H
                        have p365 : 0 ≤ (x8_1 : Int) := of_decide_eq_true asm_
                        have q365 : x8_1 < (l2.length : Int) := of_decide_eq_true asm_
                        obtain ⟨ad365, e365, hx365_0, hx365_1, hx365_2⟩ := o8 HR2.out x8_1 p365 q365
                        cases e365
                        replace hx365_0 := (HB.out.cell (World.block_lt_of_cell? w _ hx365_0)).trans hx365_0
                        replace hx365_1 := (HB.out.cell (World.block_lt_of_cell? w _ hx365_1)).trans hx365_1
                        replace hx365_2 := (HB.out.cell (World.block_lt_of_cell? w _ hx365_2)).trans hx365_2
                        replace p365 := eq_true p365
                        replace q365 := eq_true q365
                        have p366 : 0 ≤ (x8_1 : Int) := of_decide_eq_true asm_
                        have q366 : x8_1 < (l2.length : Int) := of_decide_eq_true asm_
                        obtain ⟨ad366, e366, hx366_0, hx366_1, hx366_2⟩ := o8 HR2.out x8_1 p366 q366
                        obtain rfl : ad365 = ad366 := (by injection e366)
                        replace hx366_0 := (HB.out.cell (World.block_lt_of_cell? w _ hx366_0)).trans hx366_0
                        replace hx366_1 := (HB.out.cell (World.block_lt_of_cell? w _ hx366_1)).trans hx366_1
                        replace hx366_2 := (HB.out.cell (World.block_lt_of_cell? w _ hx366_2)).trans hx366_2
                        replace p366 := eq_true p366
                        replace q366 := eq_true q366
                        obtain ⟨Ao21, co21, eo21⟩ := Kd.R_slice HO_365001.out
                        subst eo21
                        try go_wp2
                        have n0_ := iC.mk (Kd.R_drew HO_365001.out)
                        have n1_ := iC.mk (iO BK359.out)
                        have n2_ := iC.mk (iO BK364.out)
                        have n3_ := iC.mk (iG HB.out)
                        clear HO_365001
                        clear BK359
                        clear BK364
                        clear HB
                        have HO_365001 := n0_
                        have BK359 := n1_
                        have BK364 := n2_
                        have HB := n3_
                        clear n0_ n1_ n2_ n3_
                        have p367 : 0 ≤ (x8_1 : Int) := of_decide_eq_true asm_
                        have q367 : x8_1 < (l2.length : Int) := of_decide_eq_true asm_
                        obtain ⟨ad367, e367, hx367_0, hx367_1, hx367_2⟩ := o8 HR2.out x8_1 p367 q367
                        have hw367_2 := hx367_2
                        have hw367_1 := hx367_1
                        have hw367_0 := hx367_0
                        obtain rfl : ad365 = ad367 := (by injection e367)
                        replace hx367_0 := (HB.out.cell (World.block_lt_of_cell? w _ hx367_0)).trans hx367_0
                        replace hx367_1 := (HB.out.cell (World.block_lt_of_cell? w _ hx367_1)).trans hx367_1
                        replace hx367_2 := (HB.out.cell (World.block_lt_of_cell? w _ hx367_2)).trans hx367_2
                        replace p367 := eq_true p367
                        replace q367 := eq_true q367
                        refine lT (n := 20) (S := fun w' => w'.cell? ⟨gb364, 0, none⟩ = some (.int .u32 x365000_1) ∧ w'.cell? ⟨gb364, 1, none⟩ = some (.slice Ao21 x365001_1.length co21) ∧ w'.cell? (ad365.add ((x8_1).toNat * 3)) = some (.int .u16 ((jF l2 x8_1).f0)) ∧ w'.cell? ⟨(ad365.add ((x8_1).toNat * 3)).block, (ad365.add ((x8_1).toNat * 3)).off + 1, none⟩ = some (.int .u16 ((jF l2 x8_1).f1)) ∧ w'.cell? ⟨(ad365.add ((x8_1).toNat * 3)).block, (ad365.add ((x8_1).toNat * 3)).off + 2, none⟩ = some (.int .u8 ((jF l2 x8_1).f2))) (ds := []) #[false, false, false, false, false, false, false, false, false, false, false, false, false, false, false, false, false, false, false, false] (by kernel_rfl) rfl rfl ⟨(iI BK364.out 0).trans rfl, (iI BK364.out 1).trans rfl, ((HB.out.cell (World.block_lt_of_cell? w _ hw367_0)).trans hw367_0), ((HB.out.cell (World.block_lt_of_cell? w _ hw367_1)).trans hw367_1), ((HB.out.cell (World.block_lt_of_cell? w _ hw367_2)).trans hw367_2)⟩ (fun hHeld => ?_); refine kK stratumlaw12_Of.tab7 stratumlaw12_Of.bits7 (fun HT_ HW_ => ?_)
                        generalize wc.drew = w22 at HO_365001 BK359 BK364 HB hx367_0 hx367_1 hx367_2 hHeld ⊢
                        refine jI (i := 1) (N := some 47) (v := ?_) (a' := ?_) #[false, true, false, false, false, false, false, false, false, false, false, false, false, false, false, false, false, false, false, false] rfl rfl (jB HT_.out (by kernel_rfl)) (fun _ _ _ h => h) (Or.inl ⟨by rfl, ?_⟩) ?_ ?_
                        rotate_left
                        · intro w'
                          go_simp
                          with_reducible rfl
                        rotate_left
                        · simp only [Act.put, List.setIfInBounds_toArray, List.set_cons_zero, List.set_cons_succ, iY, iZ]
                          rfl
                        refine jI (i := 2) (N := some 48) (v := ?_) (a' := ?_) #[false, true, true, false, false, false, false, false, false, false, false, false, false, false, false, false, false, false, false, false] rfl rfl (jB HT_.out (by kernel_rfl)) (fun _ _ _ h => h) (Or.inl ⟨by rfl, ?_⟩) ?_ ?_
                        rotate_left
                        · intro w'
                          go_simp
                          with_reducible rfl
                        rotate_left
                        · simp only [Act.put, List.setIfInBounds_toArray, List.set_cons_zero, List.set_cons_succ, iY, iZ]
                          rfl
                        refine jI (i := 3) (N := some 49) (v := ?_) (a' := ?_) #[false, true, true, true, false, false, false, false, false, false, false, false, false, false, false, false, false, false, false, false] rfl rfl (jB HT_.out (by kernel_rfl)) (fun _ _ _ h => h) (Or.inl ⟨by rfl, ?_⟩) ?_ ?_
                        rotate_left
                        · intro w'
                          go_simp
                          with_reducible rfl
                        rotate_left
                        · simp only [Act.put, List.setIfInBounds_toArray, List.set_cons_zero, List.set_cons_succ, iY, iZ]
                          rfl
                        refine jI (i := 4) (N := some 50) (v := ?_) (a' := ?_) #[false, true, true, true, true, false, false, false, false, false, false, false, false, false, false, false, false, false, false, false] rfl rfl (jB HT_.out (by kernel_rfl)) (fun _ _ _ h => h) (Or.inl ⟨by rfl, ?_⟩) ?_ ?_
                        rotate_left
                        · intro w'
                          go_simp
                          with_reducible rfl
                        rotate_left
                        · simp only [Act.put, List.setIfInBounds_toArray, List.set_cons_zero, List.set_cons_succ, iY, iZ]
                          rfl
                        refine jI (i := 5) (N := some 51) (v := ?_) (a' := ?_) #[false, true, true, true, true, true, false, false, false, false, false, false, false, false, false, false, false, false, false, false] rfl rfl (jB HT_.out (by kernel_rfl)) (fun _ _ _ h => h) (Or.inl ⟨by rfl, ?_⟩) ?_ ?_
                        rotate_left
                        · intro w'
                          go_simp
                          with_reducible rfl
                        rotate_left
                        · simp only [Act.put, List.setIfInBounds_toArray, List.set_cons_zero, List.set_cons_succ, iY, iZ]
                          rfl
                        refine jI (i := 6) (N := some 52) (v := ?_) (a' := ?_) #[false, true, true, true, true, true, true, false, false, false, false, false, false, false, false, false, false, false, false, false] rfl rfl (jB HT_.out (by kernel_rfl)) (fun _ _ _ h => h) (Or.inl ⟨by rfl, ?_⟩) ?_ ?_
                        rotate_left
                        · intro w'
                          go_simp
                          with_reducible rfl
                        rotate_left
                        · simp only [Act.put, List.setIfInBounds_toArray, List.set_cons_zero, List.set_cons_succ, iY, iZ]
                          rfl
                        refine jI (i := 7) (N := some 53) (v := ?_) (a' := ?_) #[false, true, true, true, true, true, true, true, false, false, false, false, false, false, false, false, false, false, false, false] rfl rfl (jB HT_.out (by kernel_rfl)) (fun _ _ _ h => h) (Or.inl ⟨by rfl, ?_⟩) ?_ ?_
                        rotate_left
                        · intro w'
                          go_simp
                          with_reducible rfl
                        rotate_left
                        · simp only [Act.put, List.setIfInBounds_toArray, List.set_cons_zero, List.set_cons_succ, iY, iZ]
                          rfl
                        refine jI (i := 8) (N := some 54) (v := ?_) (a' := ?_) #[false, true, true, true, true, true, true, true, true, false, false, false, false, false, false, false, false, false, false, false] rfl rfl (jB HT_.out (by kernel_rfl)) (fun _ _ _ h => h) (Or.inl ⟨by rfl, ?_⟩) ?_ ?_
                        rotate_left
                        · intro w'
                          go_simp
                          with_reducible rfl
                        rotate_left
                        · simp only [Act.put, List.setIfInBounds_toArray, List.set_cons_zero, List.set_cons_succ, iY, iZ]
                          rfl
                        refine jI (i := 11) (N := some 57) (v := ?_) (a' := ?_) #[false, true, true, true, true, true, true, true, true, false, false, true, false, false, false, false, false, false, false, false] rfl rfl (jB HT_.out (by kernel_rfl)) (fun _ _ _ h => h) (Or.inl ⟨by rfl, ?_⟩) ?_ ?_
                        rotate_left
                        · intro w'
                          go_simp
                          with_reducible rfl
                        rotate_left
                        · simp only [Act.put, List.setIfInBounds_toArray, List.set_cons_zero, List.set_cons_succ, iY, iZ]
                          rfl
                        refine take_ (i := 0) (N := some 46) (v := ?_) (a' := ?_) #[true, true, true, true, true, true, true, true, true, false, false, true, false, false, false, false, false, false, false, false] rfl rfl (jM HT_.out HW_.out (by kernel_rfl)) (fun _ _ _ h => h) (Or.inl ⟨by rfl, ?_⟩) hHeld ?_ ?_
                        rotate_left
                        · rintro w' ⟨s0, s1, s2, s3, s4⟩
                          go_simp
                          with_reducible rfl
                        rotate_left
                        · simp only [Act.put, List.setIfInBounds_toArray, List.set_cons_zero, List.set_cons_succ, iY, iZ]
                          rfl
                        refine take_ (i := 9) (N := some 55) (v := ?_) (a' := ?_) #[true, true, true, true, true, true, true, true, true, true, false, true, false, false, false, false, false, false, false, false] rfl rfl (jM HT_.out HW_.out (by kernel_rfl)) (fun _ _ _ h => h) (Or.inl ⟨by rfl, ?_⟩) hHeld ?_ ?_
                        rotate_left
                        · rintro w' ⟨s0, s1, s2, s3, s4⟩
                          go_simp
                          with_reducible rfl
                        rotate_left
                        · simp only [Act.put, List.setIfInBounds_toArray, List.set_cons_zero, List.set_cons_succ, iY, iZ]
                          rfl
                        refine jI (i := 10) (N := some 56) (v := ?_) (a' := ?_) #[true, true, true, true, true, true, true, true, true, true, true, true, false, false, false, false, false, false, false, false] rfl rfl (jB HT_.out (by kernel_rfl)) (fun _ _ _ h => h) (Or.inl ⟨by rfl, ?_⟩) ?_ ?_
                        rotate_left
                        · intro w'
                          go_simp
                          with_reducible rfl
                        rotate_left
                        · simp only [Act.put, List.setIfInBounds_toArray, List.set_cons_zero, List.set_cons_succ, iY, iZ]
                          rfl
                        refine jI (i := 12) (N := some 58) (v := ?_) (a' := ?_) #[true, true, true, true, true, true, true, true, true, true, true, true, true, false, false, false, false, false, false, false] rfl rfl (jB HT_.out (by kernel_rfl)) (fun _ _ _ h => h) (Or.inl ⟨by rfl, ?_⟩) ?_ ?_
                        rotate_left
                        · intro w'
                          go_simp
                          with_reducible rfl
                        rotate_left
                        · simp only [Act.put, List.setIfInBounds_toArray, List.set_cons_zero, List.set_cons_succ, iY, iZ]
                          rfl
                        refine zD (σ := Value × Nat) 2 #[true, true, true, true, true, true, true, true, true, true, true, true, true, true, true, true, true, true, false, false] (fun s_ => [(59, .tuple #[.agg #[.int .u32 t368, s_.1], .int .i64 t372]), (11, .pointer (some ⟨s_.2, 0, none⟩)), (45, .tuple #[.agg #[.int .u32 t368, s_.1], .int .i64 t372]), (60, .agg #[.int .u32 t368, s_.1]), (61, .int .i64 t372)]) (fun s_ w' => (w'.cell? ⟨gb364, 0, none⟩ = some (.int .u32 x365000_1) ∧ w'.cell? ⟨gb364, 1, none⟩ = some (.slice Ao21 x365001_1.length co21) ∧ w'.cell? (ad365.add ((x8_1).toNat * 3)) = some (.int .u16 ((jF l2 x8_1).f0)) ∧ w'.cell? ⟨(ad365.add ((x8_1).toNat * 3)).block, (ad365.add ((x8_1).toNat * 3)).off + 1, none⟩ = some (.int .u16 ((jF l2 x8_1).f1)) ∧ w'.cell? ⟨(ad365.add ((x8_1).toNat * 3)).block, (ad365.add ((x8_1).toNat * 3)).off + 2, none⟩ = some (.int .u8 ((jF l2 x8_1).f2))) ∧ (Kd.R k60 60 w' w.heap.size (fun k_ => some k_ ≠ (.slice Ao21 x365001_1.length co21 : Value).ownBlock) s_.1 t369) ∧ (Kd.R k60 60 w' w.heap.size (fun k_ => some k_ ≠ (s_.1 : Value).ownBlock) (.slice Ao21 x365001_1.length co21) x365001_1) ∧ (w'.heap[gb359]? = some (.cells #[.int .u32 0, .slice none 0 0] 42 (0, 0))) ∧ (w'.heap[gb364]? = some (.cells #[.int .u32 x365000_1, .slice Ao21 x365001_1.length co21] 42 (0, 0))) ∧ (w'.heap[s_.2]? = some (.cells #[.int .u32 0, .slice none 0 0] 42 (0, 0))) ∧ (w.heap.size ≤ s_.2) ∧ (w.heap.size ≤ s_.2) ∧ (gb359 ≠ s_.2) ∧ (s_.2 ≠ gb359) ∧ (gb364 ≠ s_.2) ∧ (s_.2 ≠ gb364) ∧ (Below w.heap.size w w')) ?_ ?_
                        rotate_left
                        · intro hCont
                          refine two_ (i := 13) (j := 17) (Ni := some 59) (Nj := some 11) #[true, true, true, true, true, true, true, true, true, true, true, true, true, true, false, false, false, false, false, false] #[true, true, true, true, true, true, true, true, true, true, true, true, true, false, false, false, false, true, false, false] rfl rfl rfl rfl (xU HT_.out (by kernel_rfl)) (by decide) (by decide) (fun K hK => ?_) (fun K hK => ?_)
                          · skip
                            refine nY Try.func43 (by kernel_rfl) rfl #[.agg #[.int .u32 x365000_1, .slice Ao21 x365001_1.length co21], .int .i64 a0, .int .i64 a1, .int .i64 (Int.tmod (wrap64 ((jF l2 x8_1).f0)) a0), .int .i64 (wrap64 ((wrap64 ((Int.tmod (wrap64 ((jF l2 x8_1).f0)) a0) + 1)) + (Int.tmod (wrap64 ((jF l2 x8_1).f1)) (wrap64 (a0 - (Int.tmod (wrap64 ((jF l2 x8_1).f0)) a0)))))), .int .i64 (Int.tmod (wrap64 ((jF l2 x8_1).f2)) a1)] (by rfl) rfl rfl (by (try simp only [List.map_toArray, List.map_cons, List.map_nil]); first | done | rfl | (simp only [List.length_drop, List.length_take]; rfl)) ?_
                            with_reducible refine (stratumref12_Split.calls kj10 x365000_1 _ _ x365001_1 a0 a1 (Int.tmod (wrap64 ((jF l2 x8_1).f0)) a0) (wrap64 ((wrap64 ((Int.tmod (wrap64 ((jF l2 x8_1).f0)) a0) + 1)) + (Int.tmod (wrap64 ((jF l2 x8_1).f1)) (wrap64 (a0 - (Int.tmod (wrap64 ((jF l2 x8_1).f0)) a0)))))) (Int.tmod (wrap64 ((jF l2 x8_1).f2)) a1) t368 t369 t372 _ ?side1 ?side2 A19.out).mono ?_
                            (case side1 => repeat (first | exact (Kd.R_reads' HO_365001.out).2.2 | (with_reducible refine Kd.C_alloc ?_ _) | (with_reducible refine Kd.C_drewN ?_ _) | (with_reducible refine Kd.C_drew ?_)))
                            (case side2 => exact (Kd.R_reads' HO_365001.out).2.1)
                            rintro e w23 ⟨v370, rfl, ho0, hb⟩
                            refine ⟨_, rfl, ?_⟩
                            have n0_ := iC.mk (Kd.R_elder' (by (with_reducible repeat (first | apply Kd.R_alloc | apply Kd.R_drewN | apply Kd.R_drew)); exact HO_365001.out) (Kd.R_base ho0) hb)
                            have n1_ := iC.mk (Kd.R_lower (Kd.R_new' ho0 (Kd.R_lt (by (with_reducible repeat (first | apply Kd.R_alloc | apply Kd.R_drewN | apply Kd.R_drew)); exact HO_365001.out))) (iJ (by repeat (first | (with_reducible first | exact HB.out | apply iF | apply iD | apply iG | refine iE ?_ GE359.out | refine iE ?_ GE364.out) | exact HB.out))))
                            have n2_ := iC.mk (iP (g := gb359) (o := .cells #[.int .u32 0, .slice none 0 0] 42 (0, 0)) (bk_ BK359.out) hb)
                            have n3_ := iC.mk (iP (g := gb364) (o := .cells #[.int .u32 x365000_1, .slice Ao21 x365001_1.length co21] 42 (0, 0)) (bk_ BK364.out) hb)
                            have n4_ := iC.mk (iK (by repeat (first | (with_reducible first | exact HB.out | apply iF | apply iD | apply iG | refine iE ?_ GE359.out | refine iE ?_ GE364.out) | exact HB.out)) hb)
                            clear HO_365001
                            clear BK359
                            clear BK364
                            clear HB
                            have HO_365001 := n0_
                            have HO371 := n1_
                            have BK359 := n2_
                            have BK364 := n3_
                            have HB := n4_
                            clear n0_ n1_ n2_ n3_ n4_
                            (try clear hb)
                            (try clear hb2)
                            (try clear hk)
                            (try clear hi)
                            (try clear ho0)
                            refine hK.out _ _ ⟨(iI BK364.out 0).trans rfl, (iI BK364.out 1).trans rfl, ((HB.out.cell (World.block_lt_of_cell? w _ hw367_0)).trans hw367_0), ((HB.out.cell (World.block_lt_of_cell? w _ hw367_1)).trans hw367_1), ((HB.out.cell (World.block_lt_of_cell? w _ hw367_2)).trans hw367_2)⟩ (fun hHeld => ?_)
                            clear hK K
                            refine kT (a' := ?_) ?_ ?_
                            rotate_left
                            · show Act.put _ (some 59) _ = _
                              simp only [Act.put, List.setIfInBounds_toArray, List.set_cons_zero, List.set_cons_succ, iY, iZ]
                              rfl
                            refine jI (i := 14) (N := some 45) (v := ?_) (a' := ?_) #[true, true, true, true, true, true, true, true, true, true, true, true, true, true, true, false, false, false, false, false] rfl rfl (jB HT_.out (by kernel_rfl)) (fun _ _ _ h => h) (Or.inl ⟨by rfl, ?_⟩) ?_ ?_
                            rotate_left
                            · intro w'
                              go_simp
                              with_reducible rfl
                            rotate_left
                            · simp only [Act.put, List.setIfInBounds_toArray, List.set_cons_zero, List.set_cons_succ, iY, iZ]
                              rfl
                            refine jI (i := 15) (N := some 60) (v := ?_) (a' := ?_) #[true, true, true, true, true, true, true, true, true, true, true, true, true, true, true, true, false, false, false, false] rfl rfl (jB HT_.out (by kernel_rfl)) (fun _ _ _ h => h) (Or.inl ⟨by rfl, ?_⟩) ?_ ?_
                            rotate_left
                            · intro w'
                              go_simp
                              with_reducible rfl
                            rotate_left
                            · simp only [Act.put, List.setIfInBounds_toArray, List.set_cons_zero, List.set_cons_succ, iY, iZ]
                              rfl
                            refine jI (i := 16) (N := some 61) (v := ?_) (a' := ?_) #[true, true, true, true, true, true, true, true, true, true, true, true, true, true, true, true, true, false, false, false] rfl rfl (jB HT_.out (by kernel_rfl)) (fun _ _ _ h => h) (Or.inl ⟨by rfl, ?_⟩) ?_ ?_
                            rotate_left
                            · intro w'
                              go_simp
                              with_reducible rfl
                            rotate_left
                            · simp only [Act.put, List.setIfInBounds_toArray, List.set_cons_zero, List.set_cons_succ, iY, iZ]
                              rfl
                            refine one_ (i := 17) (N := some 11) #[true, true, true, true, true, true, true, true, true, true, true, true, true, true, true, true, true, true, false, false] rfl rfl (kQ HT_.out (by kernel_rfl)) (by decide) (fun K hK => ?_)
                            refine nD ?hg (N := 11) ?hd (cs := #[.int .u32 0, .slice none 0 0]) (t := 42) ?hr ?_; (case hd => rfl); (case hg => rfl); (case hr => first | (go_simp; done) | (go_simp; rfl))
                            intro gb373 hg w24 hbox hb
                            have n0_ := iC.mk (Kd.R_below (by (with_reducible repeat (first | apply Kd.R_alloc | apply Kd.R_drewN | apply Kd.R_drew)); exact HO_365001.out) hb)
                            have n1_ := iC.mk (Kd.R_below (by (with_reducible repeat (first | apply Kd.R_alloc | apply Kd.R_drewN | apply Kd.R_drew)); exact HO371.out) hb)
                            have n2_ := iC.mk (iP (g := gb359) (o := .cells #[.int .u32 0, .slice none 0 0] 42 (0, 0)) (bk_ BK359.out) hb)
                            have n3_ := iC.mk (iP (g := gb364) (o := .cells #[.int .u32 x365000_1, .slice Ao21 x365001_1.length co21] 42 (0, 0)) (bk_ BK364.out) hb)
                            have n4_ := iC.mk (iK (by repeat (first | (with_reducible first | exact HB.out | apply iF | apply iD | apply iG | refine iE ?_ GE359.out | refine iE ?_ GE364.out) | exact HB.out)) hb)
                            have n5_ := iC.mk (hbox)
                            have n6_ := iC.mk ((by rw [hg]; exact (iJ (by repeat (first | (with_reducible first | exact HB.out | apply iF | apply iD | apply iG | refine iE ?_ GE359.out | refine iE ?_ GE364.out) | exact HB.out))) : w.heap.size ≤ gb373))
                            have n7_ := iC.mk ((by rw [hg]; exact (iJ (by repeat (first | (with_reducible first | exact HB.out | apply iF | apply iD | apply iG | refine iE ?_ GE359.out | refine iE ?_ GE364.out) | exact HB.out))) : w.heap.size ≤ gb373))
                            have n8_ := iC.mk ((by rw [hg]; exact Nat.ne_of_lt (jE (g := gb359) (o := .cells #[.int .u32 0, .slice none 0 0] 42 (0, 0)) (bk_ BK359.out)) : gb359 ≠ gb373))
                            have n9_ := iC.mk ((by rw [hg]; exact Nat.ne_of_gt (jE (g := gb359) (o := .cells #[.int .u32 0, .slice none 0 0] 42 (0, 0)) (bk_ BK359.out)) : gb373 ≠ gb359))
                            have n10_ := iC.mk ((by rw [hg]; exact Nat.ne_of_lt (jE (g := gb364) (o := .cells #[.int .u32 x365000_1, .slice Ao21 x365001_1.length co21] 42 (0, 0)) (bk_ BK364.out)) : gb364 ≠ gb373))
                            have n11_ := iC.mk ((by rw [hg]; exact Nat.ne_of_gt (jE (g := gb364) (o := .cells #[.int .u32 x365000_1, .slice Ao21 x365001_1.length co21] 42 (0, 0)) (bk_ BK364.out)) : gb373 ≠ gb364))
                            clear HO_365001
                            clear HO371
                            clear BK359
                            clear BK364
                            clear HB
                            have HO_365001 := n0_
                            have HO371 := n1_
                            have BK359 := n2_
                            have BK364 := n3_
                            have HB := n4_
                            have BK373 := n5_
                            have GW373 := n6_
                            have GE373 := n7_
                            have NB359_373 := n8_
                            have NB373_359 := n9_
                            have NB364_373 := n10_
                            have NB373_364 := n11_
                            clear n0_ n1_ n2_ n3_ n4_ n5_ n6_ n7_ n8_ n9_ n10_ n11_
                            clear hb hbox hg
                            refine hK.out _ _ ⟨(iI BK364.out 0).trans rfl, (iI BK364.out 1).trans rfl, ((HB.out.cell (World.block_lt_of_cell? w _ hw367_0)).trans hw367_0), ((HB.out.cell (World.block_lt_of_cell? w _ hw367_1)).trans hw367_1), ((HB.out.cell (World.block_lt_of_cell? w _ hw367_2)).trans hw367_2)⟩ (fun hHeld => ?_)
                            clear hK K
                            refine kT (a' := ?_) ?_ ?_
                            rotate_left
                            · show Act.put _ (some 11) _ = _
                              simp only [Act.put, List.setIfInBounds_toArray, List.set_cons_zero, List.set_cons_succ, iY, iZ]
                              rfl
                            exact kT (by simp only [mJ, Act.put, List.setIfInBounds_toArray, List.set_cons_zero, List.set_cons_succ]) (hCont (v370, gb373) _ ⟨hHeld, (by (with_reducible repeat (first | apply Kd.R_alloc | apply Kd.R_drewN | apply Kd.R_drew)); exact Kd.R_mono HO371.out (fun _ hk => hk.2)), (by (with_reducible repeat (first | apply Kd.R_alloc | apply Kd.R_drewN | apply Kd.R_drew)); exact Kd.R_mono HO_365001.out (fun _ hk => hk.2)), (bk_ BK359.out), (bk_ BK364.out), (bk_ BK373.out), GW373.out, GE373.out, NB359_373.out, NB373_359.out, NB364_373.out, NB373_364.out, (by repeat (first | (with_reducible first | exact HB.out | apply iF | apply iD | apply iG | refine iE ?_ GE359.out | refine iE ?_ GE364.out | refine iE ?_ GE373.out) | exact HB.out))⟩)
                          · skip
                            refine nD ?hg (N := 11) ?hd (cs := #[.int .u32 0, .slice none 0 0]) (t := 42) ?hr ?_; (case hd => rfl); (case hg => rfl); (case hr => first | (go_simp; done) | (go_simp; rfl))
                            intro gb373 hg w23 hbox hb
                            have n0_ := iC.mk (Kd.R_below (by (with_reducible repeat (first | apply Kd.R_alloc | apply Kd.R_drewN | apply Kd.R_drew)); exact HO_365001.out) hb)
                            have n1_ := iC.mk (iP (g := gb359) (o := .cells #[.int .u32 0, .slice none 0 0] 42 (0, 0)) (bk_ BK359.out) hb)
                            have n2_ := iC.mk (iP (g := gb364) (o := .cells #[.int .u32 x365000_1, .slice Ao21 x365001_1.length co21] 42 (0, 0)) (bk_ BK364.out) hb)
                            have n3_ := iC.mk (iK (by repeat (first | (with_reducible first | exact HB.out | apply iF | apply iD | apply iG | refine iE ?_ GE359.out | refine iE ?_ GE364.out) | exact HB.out)) hb)
                            have n4_ := iC.mk (hbox)
                            have n5_ := iC.mk ((by rw [hg]; exact (iJ (by repeat (first | (with_reducible first | exact HB.out | apply iF | apply iD | apply iG | refine iE ?_ GE359.out | refine iE ?_ GE364.out) | exact HB.out))) : w.heap.size ≤ gb373))
                            have n6_ := iC.mk ((by rw [hg]; exact (iJ (by repeat (first | (with_reducible first | exact HB.out | apply iF | apply iD | apply iG | refine iE ?_ GE359.out | refine iE ?_ GE364.out) | exact HB.out))) : w.heap.size ≤ gb373))
                            have n7_ := iC.mk ((by rw [hg]; exact Nat.ne_of_lt (jE (g := gb359) (o := .cells #[.int .u32 0, .slice none 0 0] 42 (0, 0)) (bk_ BK359.out)) : gb359 ≠ gb373))
                            have n8_ := iC.mk ((by rw [hg]; exact Nat.ne_of_gt (jE (g := gb359) (o := .cells #[.int .u32 0, .slice none 0 0] 42 (0, 0)) (bk_ BK359.out)) : gb373 ≠ gb359))
                            have n9_ := iC.mk ((by rw [hg]; exact Nat.ne_of_lt (jE (g := gb364) (o := .cells #[.int .u32 x365000_1, .slice Ao21 x365001_1.length co21] 42 (0, 0)) (bk_ BK364.out)) : gb364 ≠ gb373))
                            have n10_ := iC.mk ((by rw [hg]; exact Nat.ne_of_gt (jE (g := gb364) (o := .cells #[.int .u32 x365000_1, .slice Ao21 x365001_1.length co21] 42 (0, 0)) (bk_ BK364.out)) : gb373 ≠ gb364))
                            clear HO_365001
                            clear BK359
                            clear BK364
                            clear HB
                            have HO_365001 := n0_
                            have BK359 := n1_
                            have BK364 := n2_
                            have HB := n3_
                            have BK373 := n4_
                            have GW373 := n5_
                            have GE373 := n6_
                            have NB359_373 := n7_
                            have NB373_359 := n8_
                            have NB364_373 := n9_
                            have NB373_364 := n10_
                            clear n0_ n1_ n2_ n3_ n4_ n5_ n6_ n7_ n8_ n9_ n10_
                            clear hb hbox hg
                            refine hK.out _ _ ⟨(iI BK364.out 0).trans rfl, (iI BK364.out 1).trans rfl, ((HB.out.cell (World.block_lt_of_cell? w _ hw367_0)).trans hw367_0), ((HB.out.cell (World.block_lt_of_cell? w _ hw367_1)).trans hw367_1), ((HB.out.cell (World.block_lt_of_cell? w _ hw367_2)).trans hw367_2)⟩ (fun hHeld => ?_)
                            clear hK K
                            refine kT (a' := ?_) ?_ ?_
                            rotate_left
                            · show Act.put _ (some 11) _ = _
                              simp only [Act.put, List.setIfInBounds_toArray, List.set_cons_zero, List.set_cons_succ, iY, iZ]
                              rfl
                            refine one_ (i := 13) (N := some 59) #[true, true, true, true, true, true, true, true, true, true, true, true, true, true, false, false, false, true, false, false] rfl rfl (kQ HT_.out (by kernel_rfl)) (by decide) (fun K hK => ?_)
                            refine nY Try.func43 (by kernel_rfl) rfl #[.agg #[.int .u32 x365000_1, .slice Ao21 x365001_1.length co21], .int .i64 a0, .int .i64 a1, .int .i64 (Int.tmod (wrap64 ((jF l2 x8_1).f0)) a0), .int .i64 (wrap64 ((wrap64 ((Int.tmod (wrap64 ((jF l2 x8_1).f0)) a0) + 1)) + (Int.tmod (wrap64 ((jF l2 x8_1).f1)) (wrap64 (a0 - (Int.tmod (wrap64 ((jF l2 x8_1).f0)) a0)))))), .int .i64 (Int.tmod (wrap64 ((jF l2 x8_1).f2)) a1)] (by rfl) rfl rfl (by (try simp only [List.map_toArray, List.map_cons, List.map_nil]); first | done | rfl | (simp only [List.length_drop, List.length_take]; rfl)) ?_
                            with_reducible refine (stratumref12_Split.calls kj10 x365000_1 _ _ x365001_1 a0 a1 (Int.tmod (wrap64 ((jF l2 x8_1).f0)) a0) (wrap64 ((wrap64 ((Int.tmod (wrap64 ((jF l2 x8_1).f0)) a0) + 1)) + (Int.tmod (wrap64 ((jF l2 x8_1).f1)) (wrap64 (a0 - (Int.tmod (wrap64 ((jF l2 x8_1).f0)) a0)))))) (Int.tmod (wrap64 ((jF l2 x8_1).f2)) a1) t368 t369 t372 _ ?side1 ?side2 A19.out).mono ?_
                            (case side1 => repeat (first | exact (Kd.R_reads' HO_365001.out).2.2 | (with_reducible refine Kd.C_alloc ?_ _) | (with_reducible refine Kd.C_drewN ?_ _) | (with_reducible refine Kd.C_drew ?_)))
                            (case side2 => exact (Kd.R_reads' HO_365001.out).2.1)
                            rintro e w24 ⟨v370, rfl, ho0, hb⟩
                            refine ⟨_, rfl, ?_⟩
                            have n0_ := iC.mk (Kd.R_elder' (by (with_reducible repeat (first | apply Kd.R_alloc | apply Kd.R_drewN | apply Kd.R_drew)); exact HO_365001.out) (Kd.R_base ho0) hb)
                            have n1_ := iC.mk (Kd.R_lower (Kd.R_new' ho0 (Kd.R_lt (by (with_reducible repeat (first | apply Kd.R_alloc | apply Kd.R_drewN | apply Kd.R_drew)); exact HO_365001.out))) (iJ (by repeat (first | (with_reducible first | exact HB.out | apply iF | apply iD | apply iG | refine iE ?_ GE359.out | refine iE ?_ GE364.out | refine iE ?_ GE373.out) | exact HB.out))))
                            have n2_ := iC.mk (iP (g := gb359) (o := .cells #[.int .u32 0, .slice none 0 0] 42 (0, 0)) (bk_ BK359.out) hb)
                            have n3_ := iC.mk (iP (g := gb364) (o := .cells #[.int .u32 x365000_1, .slice Ao21 x365001_1.length co21] 42 (0, 0)) (bk_ BK364.out) hb)
                            have n4_ := iC.mk (iP (g := gb373) (o := .cells #[.int .u32 0, .slice none 0 0] 42 (0, 0)) (bk_ BK373.out) hb)
                            have n5_ := iC.mk (iK (by repeat (first | (with_reducible first | exact HB.out | apply iF | apply iD | apply iG | refine iE ?_ GE359.out | refine iE ?_ GE364.out | refine iE ?_ GE373.out) | exact HB.out)) hb)
                            clear HO_365001
                            clear BK359
                            clear BK364
                            clear BK373
                            clear HB
                            have HO_365001 := n0_
                            have HO371 := n1_
                            have BK359 := n2_
                            have BK364 := n3_
                            have BK373 := n4_
                            have HB := n5_
                            clear n0_ n1_ n2_ n3_ n4_ n5_
                            (try clear hb)
                            (try clear hb2)
                            (try clear hk)
                            (try clear hi)
                            (try clear ho0)
                            refine hK.out _ _ ⟨(iI BK364.out 0).trans rfl, (iI BK364.out 1).trans rfl, ((HB.out.cell (World.block_lt_of_cell? w _ hw367_0)).trans hw367_0), ((HB.out.cell (World.block_lt_of_cell? w _ hw367_1)).trans hw367_1), ((HB.out.cell (World.block_lt_of_cell? w _ hw367_2)).trans hw367_2)⟩ (fun hHeld => ?_)
                            clear hK K
                            refine kT (a' := ?_) ?_ ?_
                            rotate_left
                            · show Act.put _ (some 59) _ = _
                              simp only [Act.put, List.setIfInBounds_toArray, List.set_cons_zero, List.set_cons_succ, iY, iZ]
                              rfl
                            refine jI (i := 14) (N := some 45) (v := ?_) (a' := ?_) #[true, true, true, true, true, true, true, true, true, true, true, true, true, true, true, false, false, true, false, false] rfl rfl (jB HT_.out (by kernel_rfl)) (fun _ _ _ h => h) (Or.inl ⟨by rfl, ?_⟩) ?_ ?_
                            rotate_left
                            · intro w'
                              go_simp
                              with_reducible rfl
                            rotate_left
                            · simp only [Act.put, List.setIfInBounds_toArray, List.set_cons_zero, List.set_cons_succ, iY, iZ]
                              rfl
                            refine jI (i := 15) (N := some 60) (v := ?_) (a' := ?_) #[true, true, true, true, true, true, true, true, true, true, true, true, true, true, true, true, false, true, false, false] rfl rfl (jB HT_.out (by kernel_rfl)) (fun _ _ _ h => h) (Or.inl ⟨by rfl, ?_⟩) ?_ ?_
                            rotate_left
                            · intro w'
                              go_simp
                              with_reducible rfl
                            rotate_left
                            · simp only [Act.put, List.setIfInBounds_toArray, List.set_cons_zero, List.set_cons_succ, iY, iZ]
                              rfl
                            refine jI (i := 16) (N := some 61) (v := ?_) (a' := ?_) #[true, true, true, true, true, true, true, true, true, true, true, true, true, true, true, true, true, true, false, false] rfl rfl (jB HT_.out (by kernel_rfl)) (fun _ _ _ h => h) (Or.inl ⟨by rfl, ?_⟩) ?_ ?_
                            rotate_left
                            · intro w'
                              go_simp
                              with_reducible rfl
                            rotate_left
                            · simp only [Act.put, List.setIfInBounds_toArray, List.set_cons_zero, List.set_cons_succ, iY, iZ]
                              rfl
                            exact kT (by simp only [mJ, Act.put, List.setIfInBounds_toArray, List.set_cons_zero, List.set_cons_succ]) (hCont (v370, gb373) _ ⟨hHeld, (by (with_reducible repeat (first | apply Kd.R_alloc | apply Kd.R_drewN | apply Kd.R_drew)); exact Kd.R_mono HO371.out (fun _ hk => hk.2)), (by (with_reducible repeat (first | apply Kd.R_alloc | apply Kd.R_drewN | apply Kd.R_drew)); exact Kd.R_mono HO_365001.out (fun _ hk => hk.2)), (bk_ BK359.out), (bk_ BK364.out), (bk_ BK373.out), GW373.out, GE373.out, NB359_373.out, NB373_359.out, NB364_373.out, NB373_364.out, (by repeat (first | (with_reducible first | exact HB.out | apply iF | apply iD | apply iG | refine iE ?_ GE359.out | refine iE ?_ GE364.out | refine iE ?_ GE373.out) | exact HB.out))⟩)
                        rintro ⟨v370, gb373⟩ w25 ⟨hS_, h0_, h1_, h2_, h3_, h4_, h5_, h6_, h7_, h8_, h9_, h10_, h11_⟩
                        have n0_ : iC (Kd.R k60 60 w25 w.heap.size (fun k_ => some k_ ≠ (.slice Ao21 x365001_1.length co21 : Value).ownBlock) v370 t369) := ⟨h0_⟩
                        have n1_ : iC (Kd.R k60 60 w25 w.heap.size (fun k_ => some k_ ≠ (v370 : Value).ownBlock) (.slice Ao21 x365001_1.length co21) x365001_1) := ⟨h1_⟩
                        have n2_ : iC (w25.heap[gb359]? = some (.cells #[.int .u32 0, .slice none 0 0] 42 (0, 0))) := ⟨h2_⟩
                        have n3_ : iC (w25.heap[gb364]? = some (.cells #[.int .u32 x365000_1, .slice Ao21 x365001_1.length co21] 42 (0, 0))) := ⟨h3_⟩
                        have n4_ : iC (w25.heap[gb373]? = some (.cells #[.int .u32 0, .slice none 0 0] 42 (0, 0))) := ⟨h4_⟩
                        have n5_ : iC (w.heap.size ≤ gb373) := ⟨h5_⟩
                        have n6_ : iC (w.heap.size ≤ gb373) := ⟨h6_⟩
                        have n7_ : iC (gb359 ≠ gb373) := ⟨h7_⟩
                        have n8_ : iC (gb373 ≠ gb359) := ⟨h8_⟩
                        have n9_ : iC (gb364 ≠ gb373) := ⟨h9_⟩
                        have n10_ : iC (gb373 ≠ gb364) := ⟨h10_⟩
                        have n11_ : iC (Below w.heap.size w w25) := ⟨h11_⟩
                        clear HO_365001
                        clear BK359
                        clear BK364
                        clear HB
                        clear h0_ h1_ h2_ h3_ h4_ h5_ h6_ h7_ h8_ h9_ h10_ h11_
                        have HO371 := n0_
                        have HO_365001 := n1_
                        have BK359 := n2_
                        have BK364 := n3_
                        have BK373 := n4_
                        have GW373 := n5_
                        have GE373 := n6_
                        have NB359_373 := n7_
                        have NB373_359 := n8_
                        have NB364_373 := n9_
                        have NB373_364 := n10_
                        have HB := n11_
                        clear n0_ n1_ n2_ n3_ n4_ n5_ n6_ n7_ n8_ n9_ n10_ n11_
                        have hHeld : w25.cell? ⟨gb364, 0, none⟩ = some (.int .u32 x365000_1) ∧ w25.cell? ⟨gb364, 1, none⟩ = some (.slice Ao21 x365001_1.length co21) ∧ w25.cell? (ad365.add ((x8_1).toNat * 3)) = some (.int .u16 ((jF l2 x8_1).f0)) ∧ w25.cell? ⟨(ad365.add ((x8_1).toNat * 3)).block, (ad365.add ((x8_1).toNat * 3)).off + 1, none⟩ = some (.int .u16 ((jF l2 x8_1).f1)) ∧ w25.cell? ⟨(ad365.add ((x8_1).toNat * 3)).block, (ad365.add ((x8_1).toNat * 3)).off + 2, none⟩ = some (.int .u8 ((jF l2 x8_1).f2)) := hS_
                        obtain ⟨Ao27, co27, eo27⟩ := Kd.R_slice HO371.out
                        (first | subst eo27 | (injection eo27 with f1_ f2_ f3_; have f4_ := f1_.symm; have f5_ := f3_.symm; clear f1_ f2_ f3_; subst f4_; subst f5_))
                        refine kT (a' := ?_) ?_ ?_
                        rotate_left
                        · simp only [mJ, Act.put, List.setIfInBounds_toArray, List.set_cons_zero, List.set_cons_succ]
                          rfl
                        refine one_ (i := 18) (N := none) #[true, true, true, true, true, true, true, true, true, true, true, true, true, true, true, true, true, true, true, false] rfl rfl (kQ HT_.out (by kernel_rfl)) (by decide) (fun K hK => ?_)
                        have hs26 : w25.cell? ⟨gb373, 0, none⟩ = some (.int .u32 0) := (iI BK373.out 0).trans rfl
                        have hfs26 := iH BK373.out 0
                        have hns26_0 := NB359_373.out
                        have hns26_1 := NB364_373.out
                        have hms26_0 := NB373_359.out
                        have hms26_1 := NB373_364.out
                        have hs28 : w25.cell? ⟨gb373, 1, none⟩ = some (.slice none 0 0) := (iI BK373.out 1).trans rfl
                        have hfs28 := iH BK373.out 1
                        have hns28_0 := NB359_373.out
                        have hns28_1 := NB364_373.out
                        have hms28_0 := NB373_359.out
                        have hms28_1 := NB373_364.out
                        refine zS (w1 := ?_) (by rfl) rfl ?_ ?_
                        rotate_left
                        · go_simp
                          rfl
                        refine hK.out _ _ ⟨((cell_far (p := ⟨gb373, _, none⟩) NB364_373.out _).trans (((cell_far (p := ⟨gb373, _, none⟩) NB364_373.out _).trans (hHeld.1)))), ((cell_far (p := ⟨gb373, _, none⟩) NB364_373.out _).trans (((cell_far (p := ⟨gb373, _, none⟩) NB364_373.out _).trans (hHeld.2.1)))), ((cell_far (p := ⟨gb373, _, none⟩) (by first | exact Nat.ne_of_lt (Nat.lt_of_lt_of_le (by have := World.block_lt_of_cell? _ _ hw367_0; first | rwa [add_block] at this | exact this) GW373.out) | (rw [add_block]; exact Nat.ne_of_lt (Nat.lt_of_lt_of_le (by have := World.block_lt_of_cell? _ _ hw367_0; first | rwa [add_block] at this | exact this) GW373.out)) | (show (Addr.add _ _).block ≠ _; rw [add_block]; exact Nat.ne_of_lt (Nat.lt_of_lt_of_le (by have := World.block_lt_of_cell? _ _ hw367_0; first | rwa [add_block] at this | exact this) GW373.out)) | (dsimp only; exact Nat.ne_of_lt (Nat.lt_of_lt_of_le (by have := World.block_lt_of_cell? _ _ hw367_0; first | rwa [add_block] at this | exact this) GW373.out))) _).trans (((cell_far (p := ⟨gb373, _, none⟩) (by first | exact Nat.ne_of_lt (Nat.lt_of_lt_of_le (by have := World.block_lt_of_cell? _ _ hw367_0; first | rwa [add_block] at this | exact this) GW373.out) | (rw [add_block]; exact Nat.ne_of_lt (Nat.lt_of_lt_of_le (by have := World.block_lt_of_cell? _ _ hw367_0; first | rwa [add_block] at this | exact this) GW373.out)) | (show (Addr.add _ _).block ≠ _; rw [add_block]; exact Nat.ne_of_lt (Nat.lt_of_lt_of_le (by have := World.block_lt_of_cell? _ _ hw367_0; first | rwa [add_block] at this | exact this) GW373.out)) | (dsimp only; exact Nat.ne_of_lt (Nat.lt_of_lt_of_le (by have := World.block_lt_of_cell? _ _ hw367_0; first | rwa [add_block] at this | exact this) GW373.out))) _).trans (hHeld.2.2.1)))), ((cell_far (p := ⟨gb373, _, none⟩) (by first | exact Nat.ne_of_lt (Nat.lt_of_lt_of_le (by have := World.block_lt_of_cell? _ _ hw367_1; first | rwa [add_block] at this | exact this) GW373.out) | (rw [add_block]; exact Nat.ne_of_lt (Nat.lt_of_lt_of_le (by have := World.block_lt_of_cell? _ _ hw367_1; first | rwa [add_block] at this | exact this) GW373.out)) | (show (Addr.add _ _).block ≠ _; rw [add_block]; exact Nat.ne_of_lt (Nat.lt_of_lt_of_le (by have := World.block_lt_of_cell? _ _ hw367_1; first | rwa [add_block] at this | exact this) GW373.out)) | (dsimp only; exact Nat.ne_of_lt (Nat.lt_of_lt_of_le (by have := World.block_lt_of_cell? _ _ hw367_1; first | rwa [add_block] at this | exact this) GW373.out))) _).trans (((cell_far (p := ⟨gb373, _, none⟩) (by first | exact Nat.ne_of_lt (Nat.lt_of_lt_of_le (by have := World.block_lt_of_cell? _ _ hw367_1; first | rwa [add_block] at this | exact this) GW373.out) | (rw [add_block]; exact Nat.ne_of_lt (Nat.lt_of_lt_of_le (by have := World.block_lt_of_cell? _ _ hw367_1; first | rwa [add_block] at this | exact this) GW373.out)) | (show (Addr.add _ _).block ≠ _; rw [add_block]; exact Nat.ne_of_lt (Nat.lt_of_lt_of_le (by have := World.block_lt_of_cell? _ _ hw367_1; first | rwa [add_block] at this | exact this) GW373.out)) | (dsimp only; exact Nat.ne_of_lt (Nat.lt_of_lt_of_le (by have := World.block_lt_of_cell? _ _ hw367_1; first | rwa [add_block] at this | exact this) GW373.out))) _).trans (hHeld.2.2.2.1)))), ((cell_far (p := ⟨gb373, _, none⟩) (by first | exact Nat.ne_of_lt (Nat.lt_of_lt_of_le (by have := World.block_lt_of_cell? _ _ hw367_2; first | rwa [add_block] at this | exact this) GW373.out) | (rw [add_block]; exact Nat.ne_of_lt (Nat.lt_of_lt_of_le (by have := World.block_lt_of_cell? _ _ hw367_2; first | rwa [add_block] at this | exact this) GW373.out)) | (show (Addr.add _ _).block ≠ _; rw [add_block]; exact Nat.ne_of_lt (Nat.lt_of_lt_of_le (by have := World.block_lt_of_cell? _ _ hw367_2; first | rwa [add_block] at this | exact this) GW373.out)) | (dsimp only; exact Nat.ne_of_lt (Nat.lt_of_lt_of_le (by have := World.block_lt_of_cell? _ _ hw367_2; first | rwa [add_block] at this | exact this) GW373.out))) _).trans (((cell_far (p := ⟨gb373, _, none⟩) (by first | exact Nat.ne_of_lt (Nat.lt_of_lt_of_le (by have := World.block_lt_of_cell? _ _ hw367_2; first | rwa [add_block] at this | exact this) GW373.out) | (rw [add_block]; exact Nat.ne_of_lt (Nat.lt_of_lt_of_le (by have := World.block_lt_of_cell? _ _ hw367_2; first | rwa [add_block] at this | exact this) GW373.out)) | (show (Addr.add _ _).block ≠ _; rw [add_block]; exact Nat.ne_of_lt (Nat.lt_of_lt_of_le (by have := World.block_lt_of_cell? _ _ hw367_2; first | rwa [add_block] at this | exact this) GW373.out)) | (dsimp only; exact Nat.ne_of_lt (Nat.lt_of_lt_of_le (by have := World.block_lt_of_cell? _ _ hw367_2; first | rwa [add_block] at this | exact this) GW373.out))) _).trans (hHeld.2.2.2.2))))⟩ (fun hHeld => ?_)
                        clear hK K
                        refine jI (i := 19) (N := some 12) (v := ?_) (a' := ?_) #[true, true, true, true, true, true, true, true, true, true, true, true, true, true, true, true, true, true, true, true] rfl rfl (jB HT_.out (by kernel_rfl)) (fun _ _ _ h => h) (Or.inl ⟨by rfl, ?_⟩) ?_ ?_
                        rotate_left
                        · intro w'
                          go_simp
                          with_reducible rfl
                        rotate_left
                        · simp only [Act.put, List.setIfInBounds_toArray, List.set_cons_zero, List.set_cons_succ, iY, iZ]
                          rfl
                        refine nU (kY HT_.out (by kernel_rfl)) ?_
                        have hnb29 := NB373_359.out
                        have hnc29 := NB359_373.out
                        have hnb30 := NB373_364.out
                        have hnc30 := NB364_373.out
                        have hcz31_0 : w25.cell? ⟨gb373, 0, none⟩ = some (.int .u32 0) := (iI BK373.out 0).trans rfl
                        have hcz31_1 : w25.cell? ⟨gb373, 1, none⟩ = some (.slice none 0 0) := (iI BK373.out 1).trans rfl
                        have hfz31_0 := iH BK373.out 0
                        have hfz31_1 := iH BK373.out 1
                        have hnb32 := NB364_359.out
                        have hnc32 := NB359_364.out
                        have hcz33_0 : w25.cell? ⟨gb364, 0, none⟩ = some (.int .u32 x365000_1) := (iI BK364.out 0).trans rfl
                        have hcz33_1 : w25.cell? ⟨gb364, 1, none⟩ = some (.slice Ao21 x365001_1.length co21) := (iI BK364.out 1).trans rfl
                        have hfz33_0 := iH BK364.out 0
                        have hfz33_1 := iH BK364.out 1
                        try go_wp2
                        go_roundg kj10
                        case measure => have := HK1.out; have := HJ10.out; omega
                        case rel => exact ⟨(wrap64 (x8_1 + 1)), (t368), (t369), (.slice Ao27 t369.length co27), (by first | rfl | (simp; done) | (simp [*]; done)), H', ⟨by have := HK1.out; have := HJ10.out; omega⟩, ⟨by (with_reducible repeat (first | apply Kd.R_alloc | apply Kd.R_drewN | apply Kd.R_drew)); exact Kd.R_mono (Kd.R_far (p := ⟨gb364, 1, none⟩) (Kd.R_far (p := ⟨gb364, 0, none⟩) (Kd.R_far (p := ⟨gb373, 1, none⟩) (Kd.R_far (p := ⟨gb373, 0, none⟩) (Kd.R_types (Kd.R_types HO371.out BK373.out (by decide)) BK364.out (by decide)) (fun _ hk => hk.1.2) (.int .u32 t368)) (fun _ hk => hk.1.2) (.slice Ao27 t369.length co27)) (fun _ hk => hk.2) (.int .u32 t368)) (fun _ hk => hk.2) (.slice Ao27 t369.length co27)) (fun _ hk => trivial)⟩, ⟨by (with_reducible repeat (first | refine iM ?_ _ | refine iO ?_ | refine iL ?_ _)); refine jH ?_ NB359_364.out _; (with_reducible repeat (first | refine iM ?_ _ | refine iO ?_ | refine iL ?_ _)); refine jH ?_ NB359_364.out _; (with_reducible repeat (first | refine iM ?_ _ | refine iO ?_ | refine iL ?_ _)); refine jH ?_ NB359_373.out _; (with_reducible repeat (first | refine iM ?_ _ | refine iO ?_ | refine iL ?_ _)); refine jH ?_ NB359_373.out _; (with_reducible repeat (first | refine iM ?_ _ | refine iO ?_ | refine iL ?_ _)); exact BK359.out⟩, ⟨by (with_reducible repeat (first | refine iM ?_ _ | refine iO ?_ | refine iL ?_ _)); refine jD (cs := #[.int .u32 t368, .slice Ao21 x365001_1.length co21]) ?_ 1 _ rfl; (with_reducible repeat (first | refine iM ?_ _ | refine iO ?_ | refine iL ?_ _)); refine jD (cs := #[.int .u32 x365000_1, .slice Ao21 x365001_1.length co21]) ?_ 0 _ rfl; (with_reducible repeat (first | refine iM ?_ _ | refine iO ?_ | refine iL ?_ _)); refine jH ?_ NB364_373.out _; (with_reducible repeat (first | refine iM ?_ _ | refine iO ?_ | refine iL ?_ _)); refine jH ?_ NB364_373.out _; (with_reducible repeat (first | refine iM ?_ _ | refine iO ?_ | refine iL ?_ _)); exact BK364.out⟩, ⟨by repeat (first | (with_reducible first | exact HB.out | apply iF | apply iD | apply iG | refine iE ?_ GE359.out | refine iE ?_ GE364.out | refine iE ?_ GE373.out) | exact HB.out)⟩⟩
                      · rw [if_neg c20] at H
                        have c20b0 : (t372 == 0) = false := beq_eq_false_iff_ne.mpr c20
                        have c20b1 : (t372 != 0) = true := bne_iff_ne.mpr c20
                        have H' := iC.mk H
                        clear H
                        have p365 : 0 ≤ (x8_1 : Int) := of_decide_eq_true asm_
                        have q365 : x8_1 < (l2.length : Int) := of_decide_eq_true asm_
                        obtain ⟨ad365, e365, hx365_0, hx365_1, hx365_2⟩ := o8 HR2.out x8_1 p365 q365
                        cases e365
                        replace hx365_0 := (HB.out.cell (World.block_lt_of_cell? w _ hx365_0)).trans hx365_0
                        replace hx365_1 := (HB.out.cell (World.block_lt_of_cell? w _ hx365_1)).trans hx365_1
                        replace hx365_2 := (HB.out.cell (World.block_lt_of_cell? w _ hx365_2)).trans hx365_2
                        replace p365 := eq_true p365
                        replace q365 := eq_true q365
                        have p366 : 0 ≤ (x8_1 : Int) := of_decide_eq_true asm_
                        have q366 : x8_1 < (l2.length : Int) := of_decide_eq_true asm_
                        obtain ⟨ad366, e366, hx366_0, hx366_1, hx366_2⟩ := o8 HR2.out x8_1 p366 q366
                        obtain rfl : ad365 = ad366 := (by injection e366)
                        replace hx366_0 := (HB.out.cell (World.block_lt_of_cell? w _ hx366_0)).trans hx366_0
                        replace hx366_1 := (HB.out.cell (World.block_lt_of_cell? w _ hx366_1)).trans hx366_1
                        replace hx366_2 := (HB.out.cell (World.block_lt_of_cell? w _ hx366_2)).trans hx366_2
                        replace p366 := eq_true p366
                        replace q366 := eq_true q366
                        obtain ⟨Ao34, co34, eo34⟩ := Kd.R_slice HO_365001.out
                        subst eo34
                        try go_wp2
                        have n0_ := iC.mk (Kd.R_drew HO_365001.out)
                        have n1_ := iC.mk (iO BK359.out)
                        have n2_ := iC.mk (iO BK364.out)
                        have n3_ := iC.mk (iG HB.out)
                        clear HO_365001
                        clear BK359
                        clear BK364
                        clear HB
                        have HO_365001 := n0_
                        have BK359 := n1_
                        have BK364 := n2_
                        have HB := n3_
                        clear n0_ n1_ n2_ n3_
                        have p367 : 0 ≤ (x8_1 : Int) := of_decide_eq_true asm_
                        have q367 : x8_1 < (l2.length : Int) := of_decide_eq_true asm_
                        obtain ⟨ad367, e367, hx367_0, hx367_1, hx367_2⟩ := o8 HR2.out x8_1 p367 q367
                        have hw367_2 := hx367_2
                        have hw367_1 := hx367_1
                        have hw367_0 := hx367_0
                        obtain rfl : ad365 = ad367 := (by injection e367)
                        replace hx367_0 := (HB.out.cell (World.block_lt_of_cell? w _ hx367_0)).trans hx367_0
                        replace hx367_1 := (HB.out.cell (World.block_lt_of_cell? w _ hx367_1)).trans hx367_1
                        replace hx367_2 := (HB.out.cell (World.block_lt_of_cell? w _ hx367_2)).trans hx367_2
                        replace p367 := eq_true p367
                        replace q367 := eq_true q367
                        refine lT (n := 20) (S := fun w' => w'.cell? ⟨gb364, 0, none⟩ = some (.int .u32 x365000_1) ∧ w'.cell? ⟨gb364, 1, none⟩ = some (.slice Ao34 x365001_1.length co34) ∧ w'.cell? (ad365.add ((x8_1).toNat * 3)) = some (.int .u16 ((jF l2 x8_1).f0)) ∧ w'.cell? ⟨(ad365.add ((x8_1).toNat * 3)).block, (ad365.add ((x8_1).toNat * 3)).off + 1, none⟩ = some (.int .u16 ((jF l2 x8_1).f1)) ∧ w'.cell? ⟨(ad365.add ((x8_1).toNat * 3)).block, (ad365.add ((x8_1).toNat * 3)).off + 2, none⟩ = some (.int .u8 ((jF l2 x8_1).f2))) (ds := []) #[false, false, false, false, false, false, false, false, false, false, false, false, false, false, false, false, false, false, false, false] (by kernel_rfl) rfl rfl ⟨(iI BK364.out 0).trans rfl, (iI BK364.out 1).trans rfl, ((HB.out.cell (World.block_lt_of_cell? w _ hw367_0)).trans hw367_0), ((HB.out.cell (World.block_lt_of_cell? w _ hw367_1)).trans hw367_1), ((HB.out.cell (World.block_lt_of_cell? w _ hw367_2)).trans hw367_2)⟩ (fun hHeld => ?_); refine kK stratumlaw12_Of.tab7 stratumlaw12_Of.bits7 (fun HT_ HW_ => ?_)
                        generalize wc.drew = w35 at HO_365001 BK359 BK364 HB hx367_0 hx367_1 hx367_2 hHeld ⊢
                        refine jI (i := 1) (N := some 47) (v := ?_) (a' := ?_) #[false, true, false, false, false, false, false, false, false, false, false, false, false, false, false, false, false, false, false, false] rfl rfl (jB HT_.out (by kernel_rfl)) (fun _ _ _ h => h) (Or.inl ⟨by rfl, ?_⟩) ?_ ?_
                        rotate_left
                        · intro w'
                          go_simp
                          with_reducible rfl
                        rotate_left
                        · simp only [Act.put, List.setIfInBounds_toArray, List.set_cons_zero, List.set_cons_succ, iY, iZ]
                          rfl
                        refine jI (i := 2) (N := some 48) (v := ?_) (a' := ?_) #[false, true, true, false, false, false, false, false, false, false, false, false, false, false, false, false, false, false, false, false] rfl rfl (jB HT_.out (by kernel_rfl)) (fun _ _ _ h => h) (Or.inl ⟨by rfl, ?_⟩) ?_ ?_
                        rotate_left
                        · intro w'
                          go_simp
                          with_reducible rfl
                        rotate_left
                        · simp only [Act.put, List.setIfInBounds_toArray, List.set_cons_zero, List.set_cons_succ, iY, iZ]
                          rfl
                        refine jI (i := 3) (N := some 49) (v := ?_) (a' := ?_) #[false, true, true, true, false, false, false, false, false, false, false, false, false, false, false, false, false, false, false, false] rfl rfl (jB HT_.out (by kernel_rfl)) (fun _ _ _ h => h) (Or.inl ⟨by rfl, ?_⟩) ?_ ?_
                        rotate_left
                        · intro w'
                          go_simp
                          with_reducible rfl
                        rotate_left
                        · simp only [Act.put, List.setIfInBounds_toArray, List.set_cons_zero, List.set_cons_succ, iY, iZ]
                          rfl
                        refine jI (i := 4) (N := some 50) (v := ?_) (a' := ?_) #[false, true, true, true, true, false, false, false, false, false, false, false, false, false, false, false, false, false, false, false] rfl rfl (jB HT_.out (by kernel_rfl)) (fun _ _ _ h => h) (Or.inl ⟨by rfl, ?_⟩) ?_ ?_
                        rotate_left
                        · intro w'
                          go_simp
                          with_reducible rfl
                        rotate_left
                        · simp only [Act.put, List.setIfInBounds_toArray, List.set_cons_zero, List.set_cons_succ, iY, iZ]
                          rfl
                        refine jI (i := 5) (N := some 51) (v := ?_) (a' := ?_) #[false, true, true, true, true, true, false, false, false, false, false, false, false, false, false, false, false, false, false, false] rfl rfl (jB HT_.out (by kernel_rfl)) (fun _ _ _ h => h) (Or.inl ⟨by rfl, ?_⟩) ?_ ?_
                        rotate_left
                        · intro w'
                          go_simp
                          with_reducible rfl
                        rotate_left
                        · simp only [Act.put, List.setIfInBounds_toArray, List.set_cons_zero, List.set_cons_succ, iY, iZ]
                          rfl
                        refine jI (i := 6) (N := some 52) (v := ?_) (a' := ?_) #[false, true, true, true, true, true, true, false, false, false, false, false, false, false, false, false, false, false, false, false] rfl rfl (jB HT_.out (by kernel_rfl)) (fun _ _ _ h => h) (Or.inl ⟨by rfl, ?_⟩) ?_ ?_
                        rotate_left
                        · intro w'
                          go_simp
                          with_reducible rfl
                        rotate_left
                        · simp only [Act.put, List.setIfInBounds_toArray, List.set_cons_zero, List.set_cons_succ, iY, iZ]
                          rfl
                        refine jI (i := 7) (N := some 53) (v := ?_) (a' := ?_) #[false, true, true, true, true, true, true, true, false, false, false, false, false, false, false, false, false, false, false, false] rfl rfl (jB HT_.out (by kernel_rfl)) (fun _ _ _ h => h) (Or.inl ⟨by rfl, ?_⟩) ?_ ?_
                        rotate_left
                        · intro w'
                          go_simp
                          with_reducible rfl
                        rotate_left
                        · simp only [Act.put, List.setIfInBounds_toArray, List.set_cons_zero, List.set_cons_succ, iY, iZ]
                          rfl
                        refine jI (i := 8) (N := some 54) (v := ?_) (a' := ?_) #[false, true, true, true, true, true, true, true, true, false, false, false, false, false, false, false, false, false, false, false] rfl rfl (jB HT_.out (by kernel_rfl)) (fun _ _ _ h => h) (Or.inl ⟨by rfl, ?_⟩) ?_ ?_
                        rotate_left
                        · intro w'
                          go_simp
                          with_reducible rfl
                        rotate_left
                        · simp only [Act.put, List.setIfInBounds_toArray, List.set_cons_zero, List.set_cons_succ, iY, iZ]
                          rfl
                        refine jI (i := 11) (N := some 57) (v := ?_) (a' := ?_) #[false, true, true, true, true, true, true, true, true, false, false, true, false, false, false, false, false, false, false, false] rfl rfl (jB HT_.out (by kernel_rfl)) (fun _ _ _ h => h) (Or.inl ⟨by rfl, ?_⟩) ?_ ?_
                        rotate_left
                        · intro w'
                          go_simp
                          with_reducible rfl
                        rotate_left
                        · simp only [Act.put, List.setIfInBounds_toArray, List.set_cons_zero, List.set_cons_succ, iY, iZ]
                          rfl
                        refine take_ (i := 0) (N := some 46) (v := ?_) (a' := ?_) #[true, true, true, true, true, true, true, true, true, false, false, true, false, false, false, false, false, false, false, false] rfl rfl (jM HT_.out HW_.out (by kernel_rfl)) (fun _ _ _ h => h) (Or.inl ⟨by rfl, ?_⟩) hHeld ?_ ?_
                        rotate_left
                        · rintro w' ⟨s0, s1, s2, s3, s4⟩
                          go_simp
                          with_reducible rfl
                        rotate_left
                        · simp only [Act.put, List.setIfInBounds_toArray, List.set_cons_zero, List.set_cons_succ, iY, iZ]
                          rfl
                        refine take_ (i := 9) (N := some 55) (v := ?_) (a' := ?_) #[true, true, true, true, true, true, true, true, true, true, false, true, false, false, false, false, false, false, false, false] rfl rfl (jM HT_.out HW_.out (by kernel_rfl)) (fun _ _ _ h => h) (Or.inl ⟨by rfl, ?_⟩) hHeld ?_ ?_
                        rotate_left
                        · rintro w' ⟨s0, s1, s2, s3, s4⟩
                          go_simp
                          with_reducible rfl
                        rotate_left
                        · simp only [Act.put, List.setIfInBounds_toArray, List.set_cons_zero, List.set_cons_succ, iY, iZ]
                          rfl
                        refine jI (i := 10) (N := some 56) (v := ?_) (a' := ?_) #[true, true, true, true, true, true, true, true, true, true, true, true, false, false, false, false, false, false, false, false] rfl rfl (jB HT_.out (by kernel_rfl)) (fun _ _ _ h => h) (Or.inl ⟨by rfl, ?_⟩) ?_ ?_
                        rotate_left
                        · intro w'
                          go_simp
                          with_reducible rfl
                        rotate_left
                        · simp only [Act.put, List.setIfInBounds_toArray, List.set_cons_zero, List.set_cons_succ, iY, iZ]
                          rfl
                        refine jI (i := 12) (N := some 58) (v := ?_) (a' := ?_) #[true, true, true, true, true, true, true, true, true, true, true, true, true, false, false, false, false, false, false, false] rfl rfl (jB HT_.out (by kernel_rfl)) (fun _ _ _ h => h) (Or.inl ⟨by rfl, ?_⟩) ?_ ?_
                        rotate_left
                        · intro w'
                          go_simp
                          with_reducible rfl
                        rotate_left
                        · simp only [Act.put, List.setIfInBounds_toArray, List.set_cons_zero, List.set_cons_succ, iY, iZ]
                          rfl
                        refine zD (σ := Value × Nat) 2 #[true, true, true, true, true, true, true, true, true, true, true, true, true, true, true, true, true, true, false, false] (fun s_ => [(59, .tuple #[.agg #[.int .u32 t368, s_.1], .int .i64 t372]), (11, .pointer (some ⟨s_.2, 0, none⟩)), (45, .tuple #[.agg #[.int .u32 t368, s_.1], .int .i64 t372]), (60, .agg #[.int .u32 t368, s_.1]), (61, .int .i64 t372)]) (fun s_ w' => (w'.cell? ⟨gb364, 0, none⟩ = some (.int .u32 x365000_1) ∧ w'.cell? ⟨gb364, 1, none⟩ = some (.slice Ao34 x365001_1.length co34) ∧ w'.cell? (ad365.add ((x8_1).toNat * 3)) = some (.int .u16 ((jF l2 x8_1).f0)) ∧ w'.cell? ⟨(ad365.add ((x8_1).toNat * 3)).block, (ad365.add ((x8_1).toNat * 3)).off + 1, none⟩ = some (.int .u16 ((jF l2 x8_1).f1)) ∧ w'.cell? ⟨(ad365.add ((x8_1).toNat * 3)).block, (ad365.add ((x8_1).toNat * 3)).off + 2, none⟩ = some (.int .u8 ((jF l2 x8_1).f2))) ∧ (Kd.R k60 60 w' w.heap.size (fun k_ => some k_ ≠ (.slice Ao34 x365001_1.length co34 : Value).ownBlock) s_.1 t369) ∧ (Kd.R k60 60 w' w.heap.size (fun k_ => some k_ ≠ (s_.1 : Value).ownBlock) (.slice Ao34 x365001_1.length co34) x365001_1) ∧ (w'.heap[gb359]? = some (.cells #[.int .u32 0, .slice none 0 0] 42 (0, 0))) ∧ (w'.heap[gb364]? = some (.cells #[.int .u32 x365000_1, .slice Ao34 x365001_1.length co34] 42 (0, 0))) ∧ (w'.heap[s_.2]? = some (.cells #[.int .u32 0, .slice none 0 0] 42 (0, 0))) ∧ (w.heap.size ≤ s_.2) ∧ (w.heap.size ≤ s_.2) ∧ (gb359 ≠ s_.2) ∧ (s_.2 ≠ gb359) ∧ (gb364 ≠ s_.2) ∧ (s_.2 ≠ gb364) ∧ (Below w.heap.size w w')) ?_ ?_
                        rotate_left
                        · intro hCont
                          refine two_ (i := 13) (j := 17) (Ni := some 59) (Nj := some 11) #[true, true, true, true, true, true, true, true, true, true, true, true, true, true, false, false, false, false, false, false] #[true, true, true, true, true, true, true, true, true, true, true, true, true, false, false, false, false, true, false, false] rfl rfl rfl rfl (xU HT_.out (by kernel_rfl)) (by decide) (by decide) (fun K hK => ?_) (fun K hK => ?_)
                          · skip
                            refine nY Try.func43 (by kernel_rfl) rfl #[.agg #[.int .u32 x365000_1, .slice Ao34 x365001_1.length co34], .int .i64 a0, .int .i64 a1, .int .i64 (Int.tmod (wrap64 ((jF l2 x8_1).f0)) a0), .int .i64 (wrap64 ((wrap64 ((Int.tmod (wrap64 ((jF l2 x8_1).f0)) a0) + 1)) + (Int.tmod (wrap64 ((jF l2 x8_1).f1)) (wrap64 (a0 - (Int.tmod (wrap64 ((jF l2 x8_1).f0)) a0)))))), .int .i64 (Int.tmod (wrap64 ((jF l2 x8_1).f2)) a1)] (by rfl) rfl rfl (by (try simp only [List.map_toArray, List.map_cons, List.map_nil]); first | done | rfl | (simp only [List.length_drop, List.length_take]; rfl)) ?_
                            with_reducible refine (stratumref12_Split.calls kj10 x365000_1 _ _ x365001_1 a0 a1 (Int.tmod (wrap64 ((jF l2 x8_1).f0)) a0) (wrap64 ((wrap64 ((Int.tmod (wrap64 ((jF l2 x8_1).f0)) a0) + 1)) + (Int.tmod (wrap64 ((jF l2 x8_1).f1)) (wrap64 (a0 - (Int.tmod (wrap64 ((jF l2 x8_1).f0)) a0)))))) (Int.tmod (wrap64 ((jF l2 x8_1).f2)) a1) t368 t369 t372 _ ?side1 ?side2 A19.out).mono ?_
                            (case side1 => repeat (first | exact (Kd.R_reads' HO_365001.out).2.2 | (with_reducible refine Kd.C_alloc ?_ _) | (with_reducible refine Kd.C_drewN ?_ _) | (with_reducible refine Kd.C_drew ?_)))
                            (case side2 => exact (Kd.R_reads' HO_365001.out).2.1)
                            rintro e w36 ⟨v370, rfl, ho0, hb⟩
                            refine ⟨_, rfl, ?_⟩
                            have n0_ := iC.mk (Kd.R_elder' (by (with_reducible repeat (first | apply Kd.R_alloc | apply Kd.R_drewN | apply Kd.R_drew)); exact HO_365001.out) (Kd.R_base ho0) hb)
                            have n1_ := iC.mk (Kd.R_lower (Kd.R_new' ho0 (Kd.R_lt (by (with_reducible repeat (first | apply Kd.R_alloc | apply Kd.R_drewN | apply Kd.R_drew)); exact HO_365001.out))) (iJ (by repeat (first | (with_reducible first | exact HB.out | apply iF | apply iD | apply iG | refine iE ?_ GE359.out | refine iE ?_ GE364.out) | exact HB.out))))
                            have n2_ := iC.mk (iP (g := gb359) (o := .cells #[.int .u32 0, .slice none 0 0] 42 (0, 0)) (bk_ BK359.out) hb)
                            have n3_ := iC.mk (iP (g := gb364) (o := .cells #[.int .u32 x365000_1, .slice Ao34 x365001_1.length co34] 42 (0, 0)) (bk_ BK364.out) hb)
                            have n4_ := iC.mk (iK (by repeat (first | (with_reducible first | exact HB.out | apply iF | apply iD | apply iG | refine iE ?_ GE359.out | refine iE ?_ GE364.out) | exact HB.out)) hb)
                            clear HO_365001
                            clear BK359
                            clear BK364
                            clear HB
                            have HO_365001 := n0_
                            have HO371 := n1_
                            have BK359 := n2_
                            have BK364 := n3_
                            have HB := n4_
                            clear n0_ n1_ n2_ n3_ n4_
                            (try clear hb)
                            (try clear hb2)
                            (try clear hk)
                            (try clear hi)
                            (try clear ho0)
                            refine hK.out _ _ ⟨(iI BK364.out 0).trans rfl, (iI BK364.out 1).trans rfl, ((HB.out.cell (World.block_lt_of_cell? w _ hw367_0)).trans hw367_0), ((HB.out.cell (World.block_lt_of_cell? w _ hw367_1)).trans hw367_1), ((HB.out.cell (World.block_lt_of_cell? w _ hw367_2)).trans hw367_2)⟩ (fun hHeld => ?_)
                            clear hK K
                            refine kT (a' := ?_) ?_ ?_
                            rotate_left
                            · show Act.put _ (some 59) _ = _
                              simp only [Act.put, List.setIfInBounds_toArray, List.set_cons_zero, List.set_cons_succ, iY, iZ]
                              rfl
                            refine jI (i := 14) (N := some 45) (v := ?_) (a' := ?_) #[true, true, true, true, true, true, true, true, true, true, true, true, true, true, true, false, false, false, false, false] rfl rfl (jB HT_.out (by kernel_rfl)) (fun _ _ _ h => h) (Or.inl ⟨by rfl, ?_⟩) ?_ ?_
                            rotate_left
                            · intro w'
                              go_simp
                              with_reducible rfl
                            rotate_left
                            · simp only [Act.put, List.setIfInBounds_toArray, List.set_cons_zero, List.set_cons_succ, iY, iZ]
                              rfl
                            refine jI (i := 15) (N := some 60) (v := ?_) (a' := ?_) #[true, true, true, true, true, true, true, true, true, true, true, true, true, true, true, true, false, false, false, false] rfl rfl (jB HT_.out (by kernel_rfl)) (fun _ _ _ h => h) (Or.inl ⟨by rfl, ?_⟩) ?_ ?_
                            rotate_left
                            · intro w'
                              go_simp
                              with_reducible rfl
                            rotate_left
                            · simp only [Act.put, List.setIfInBounds_toArray, List.set_cons_zero, List.set_cons_succ, iY, iZ]
                              rfl
                            refine jI (i := 16) (N := some 61) (v := ?_) (a' := ?_) #[true, true, true, true, true, true, true, true, true, true, true, true, true, true, true, true, true, false, false, false] rfl rfl (jB HT_.out (by kernel_rfl)) (fun _ _ _ h => h) (Or.inl ⟨by rfl, ?_⟩) ?_ ?_
                            rotate_left
                            · intro w'
                              go_simp
                              with_reducible rfl
                            rotate_left
                            · simp only [Act.put, List.setIfInBounds_toArray, List.set_cons_zero, List.set_cons_succ, iY, iZ]
                              rfl
                            refine one_ (i := 17) (N := some 11) #[true, true, true, true, true, true, true, true, true, true, true, true, true, true, true, true, true, true, false, false] rfl rfl (kQ HT_.out (by kernel_rfl)) (by decide) (fun K hK => ?_)
                            refine nD ?hg (N := 11) ?hd (cs := #[.int .u32 0, .slice none 0 0]) (t := 42) ?hr ?_; (case hd => rfl); (case hg => rfl); (case hr => first | (go_simp; done) | (go_simp; rfl))
                            intro gb373 hg w37 hbox hb
                            have n0_ := iC.mk (Kd.R_below (by (with_reducible repeat (first | apply Kd.R_alloc | apply Kd.R_drewN | apply Kd.R_drew)); exact HO_365001.out) hb)
                            have n1_ := iC.mk (Kd.R_below (by (with_reducible repeat (first | apply Kd.R_alloc | apply Kd.R_drewN | apply Kd.R_drew)); exact HO371.out) hb)
                            have n2_ := iC.mk (iP (g := gb359) (o := .cells #[.int .u32 0, .slice none 0 0] 42 (0, 0)) (bk_ BK359.out) hb)
                            have n3_ := iC.mk (iP (g := gb364) (o := .cells #[.int .u32 x365000_1, .slice Ao34 x365001_1.length co34] 42 (0, 0)) (bk_ BK364.out) hb)
                            have n4_ := iC.mk (iK (by repeat (first | (with_reducible first | exact HB.out | apply iF | apply iD | apply iG | refine iE ?_ GE359.out | refine iE ?_ GE364.out) | exact HB.out)) hb)
                            have n5_ := iC.mk (hbox)
                            have n6_ := iC.mk ((by rw [hg]; exact (iJ (by repeat (first | (with_reducible first | exact HB.out | apply iF | apply iD | apply iG | refine iE ?_ GE359.out | refine iE ?_ GE364.out) | exact HB.out))) : w.heap.size ≤ gb373))
                            have n7_ := iC.mk ((by rw [hg]; exact (iJ (by repeat (first | (with_reducible first | exact HB.out | apply iF | apply iD | apply iG | refine iE ?_ GE359.out | refine iE ?_ GE364.out) | exact HB.out))) : w.heap.size ≤ gb373))
                            have n8_ := iC.mk ((by rw [hg]; exact Nat.ne_of_lt (jE (g := gb359) (o := .cells #[.int .u32 0, .slice none 0 0] 42 (0, 0)) (bk_ BK359.out)) : gb359 ≠ gb373))
                            have n9_ := iC.mk ((by rw [hg]; exact Nat.ne_of_gt (jE (g := gb359) (o := .cells #[.int .u32 0, .slice none 0 0] 42 (0, 0)) (bk_ BK359.out)) : gb373 ≠ gb359))
                            have n10_ := iC.mk ((by rw [hg]; exact Nat.ne_of_lt (jE (g := gb364) (o := .cells #[.int .u32 x365000_1, .slice Ao34 x365001_1.length co34] 42 (0, 0)) (bk_ BK364.out)) : gb364 ≠ gb373))
                            have n11_ := iC.mk ((by rw [hg]; exact Nat.ne_of_gt (jE (g := gb364) (o := .cells #[.int .u32 x365000_1, .slice Ao34 x365001_1.length co34] 42 (0, 0)) (bk_ BK364.out)) : gb373 ≠ gb364))
                            clear HO_365001
                            clear HO371
                            clear BK359
                            clear BK364
                            clear HB
                            have HO_365001 := n0_
                            have HO371 := n1_
                            have BK359 := n2_
                            have BK364 := n3_
                            have HB := n4_
                            have BK373 := n5_
                            have GW373 := n6_
                            have GE373 := n7_
                            have NB359_373 := n8_
                            have NB373_359 := n9_
                            have NB364_373 := n10_
                            have NB373_364 := n11_
                            clear n0_ n1_ n2_ n3_ n4_ n5_ n6_ n7_ n8_ n9_ n10_ n11_
                            clear hb hbox hg
                            refine hK.out _ _ ⟨(iI BK364.out 0).trans rfl, (iI BK364.out 1).trans rfl, ((HB.out.cell (World.block_lt_of_cell? w _ hw367_0)).trans hw367_0), ((HB.out.cell (World.block_lt_of_cell? w _ hw367_1)).trans hw367_1), ((HB.out.cell (World.block_lt_of_cell? w _ hw367_2)).trans hw367_2)⟩ (fun hHeld => ?_)
                            clear hK K
                            refine kT (a' := ?_) ?_ ?_
                            rotate_left
                            · show Act.put _ (some 11) _ = _
                              simp only [Act.put, List.setIfInBounds_toArray, List.set_cons_zero, List.set_cons_succ, iY, iZ]
                              rfl
                            exact kT (by simp only [mJ, Act.put, List.setIfInBounds_toArray, List.set_cons_zero, List.set_cons_succ]) (hCont (v370, gb373) _ ⟨hHeld, (by (with_reducible repeat (first | apply Kd.R_alloc | apply Kd.R_drewN | apply Kd.R_drew)); exact Kd.R_mono HO371.out (fun _ hk => hk.2)), (by (with_reducible repeat (first | apply Kd.R_alloc | apply Kd.R_drewN | apply Kd.R_drew)); exact Kd.R_mono HO_365001.out (fun _ hk => hk.2)), (bk_ BK359.out), (bk_ BK364.out), (bk_ BK373.out), GW373.out, GE373.out, NB359_373.out, NB373_359.out, NB364_373.out, NB373_364.out, (by repeat (first | (with_reducible first | exact HB.out | apply iF | apply iD | apply iG | refine iE ?_ GE359.out | refine iE ?_ GE364.out | refine iE ?_ GE373.out) | exact HB.out))⟩)
                          · skip
                            refine nD ?hg (N := 11) ?hd (cs := #[.int .u32 0, .slice none 0 0]) (t := 42) ?hr ?_; (case hd => rfl); (case hg => rfl); (case hr => first | (go_simp; done) | (go_simp; rfl))
                            intro gb373 hg w36 hbox hb
                            have n0_ := iC.mk (Kd.R_below (by (with_reducible repeat (first | apply Kd.R_alloc | apply Kd.R_drewN | apply Kd.R_drew)); exact HO_365001.out) hb)
                            have n1_ := iC.mk (iP (g := gb359) (o := .cells #[.int .u32 0, .slice none 0 0] 42 (0, 0)) (bk_ BK359.out) hb)
                            have n2_ := iC.mk (iP (g := gb364) (o := .cells #[.int .u32 x365000_1, .slice Ao34 x365001_1.length co34] 42 (0, 0)) (bk_ BK364.out) hb)
                            have n3_ := iC.mk (iK (by repeat (first | (with_reducible first | exact HB.out | apply iF | apply iD | apply iG | refine iE ?_ GE359.out | refine iE ?_ GE364.out) | exact HB.out)) hb)
                            have n4_ := iC.mk (hbox)
                            have n5_ := iC.mk ((by rw [hg]; exact (iJ (by repeat (first | (with_reducible first | exact HB.out | apply iF | apply iD | apply iG | refine iE ?_ GE359.out | refine iE ?_ GE364.out) | exact HB.out))) : w.heap.size ≤ gb373))
                            have n6_ := iC.mk ((by rw [hg]; exact (iJ (by repeat (first | (with_reducible first | exact HB.out | apply iF | apply iD | apply iG | refine iE ?_ GE359.out | refine iE ?_ GE364.out) | exact HB.out))) : w.heap.size ≤ gb373))
                            have n7_ := iC.mk ((by rw [hg]; exact Nat.ne_of_lt (jE (g := gb359) (o := .cells #[.int .u32 0, .slice none 0 0] 42 (0, 0)) (bk_ BK359.out)) : gb359 ≠ gb373))
                            have n8_ := iC.mk ((by rw [hg]; exact Nat.ne_of_gt (jE (g := gb359) (o := .cells #[.int .u32 0, .slice none 0 0] 42 (0, 0)) (bk_ BK359.out)) : gb373 ≠ gb359))
                            have n9_ := iC.mk ((by rw [hg]; exact Nat.ne_of_lt (jE (g := gb364) (o := .cells #[.int .u32 x365000_1, .slice Ao34 x365001_1.length co34] 42 (0, 0)) (bk_ BK364.out)) : gb364 ≠ gb373))
                            have n10_ := iC.mk ((by rw [hg]; exact Nat.ne_of_gt (jE (g := gb364) (o := .cells #[.int .u32 x365000_1, .slice Ao34 x365001_1.length co34] 42 (0, 0)) (bk_ BK364.out)) : gb373 ≠ gb364))
                            clear HO_365001
                            clear BK359
                            clear BK364
                            clear HB
                            have HO_365001 := n0_
                            have BK359 := n1_
                            have BK364 := n2_
                            have HB := n3_
                            have BK373 := n4_
                            have GW373 := n5_
                            have GE373 := n6_
                            have NB359_373 := n7_
                            have NB373_359 := n8_
                            have NB364_373 := n9_
                            have NB373_364 := n10_
                            clear n0_ n1_ n2_ n3_ n4_ n5_ n6_ n7_ n8_ n9_ n10_
                            clear hb hbox hg
                            refine hK.out _ _ ⟨(iI BK364.out 0).trans rfl, (iI BK364.out 1).trans rfl, ((HB.out.cell (World.block_lt_of_cell? w _ hw367_0)).trans hw367_0), ((HB.out.cell (World.block_lt_of_cell? w _ hw367_1)).trans hw367_1), ((HB.out.cell (World.block_lt_of_cell? w _ hw367_2)).trans hw367_2)⟩ (fun hHeld => ?_)
                            clear hK K
                            refine kT (a' := ?_) ?_ ?_
                            rotate_left
                            · show Act.put _ (some 11) _ = _
                              simp only [Act.put, List.setIfInBounds_toArray, List.set_cons_zero, List.set_cons_succ, iY, iZ]
                              rfl
                            refine one_ (i := 13) (N := some 59) #[true, true, true, true, true, true, true, true, true, true, true, true, true, true, false, false, false, true, false, false] rfl rfl (kQ HT_.out (by kernel_rfl)) (by decide) (fun K hK => ?_)
                            refine nY Try.func43 (by kernel_rfl) rfl #[.agg #[.int .u32 x365000_1, .slice Ao34 x365001_1.length co34], .int .i64 a0, .int .i64 a1, .int .i64 (Int.tmod (wrap64 ((jF l2 x8_1).f0)) a0), .int .i64 (wrap64 ((wrap64 ((Int.tmod (wrap64 ((jF l2 x8_1).f0)) a0) + 1)) + (Int.tmod (wrap64 ((jF l2 x8_1).f1)) (wrap64 (a0 - (Int.tmod (wrap64 ((jF l2 x8_1).f0)) a0)))))), .int .i64 (Int.tmod (wrap64 ((jF l2 x8_1).f2)) a1)] (by rfl) rfl rfl (by (try simp only [List.map_toArray, List.map_cons, List.map_nil]); first | done | rfl | (simp only [List.length_drop, List.length_take]; rfl)) ?_
                            with_reducible refine (stratumref12_Split.calls kj10 x365000_1 _ _ x365001_1 a0 a1 (Int.tmod (wrap64 ((jF l2 x8_1).f0)) a0) (wrap64 ((wrap64 ((Int.tmod (wrap64 ((jF l2 x8_1).f0)) a0) + 1)) + (Int.tmod (wrap64 ((jF l2 x8_1).f1)) (wrap64 (a0 - (Int.tmod (wrap64 ((jF l2 x8_1).f0)) a0)))))) (Int.tmod (wrap64 ((jF l2 x8_1).f2)) a1) t368 t369 t372 _ ?side1 ?side2 A19.out).mono ?_
                            (case side1 => repeat (first | exact (Kd.R_reads' HO_365001.out).2.2 | (with_reducible refine Kd.C_alloc ?_ _) | (with_reducible refine Kd.C_drewN ?_ _) | (with_reducible refine Kd.C_drew ?_)))
                            (case side2 => exact (Kd.R_reads' HO_365001.out).2.1)
                            rintro e w37 ⟨v370, rfl, ho0, hb⟩
                            refine ⟨_, rfl, ?_⟩
                            have n0_ := iC.mk (Kd.R_elder' (by (with_reducible repeat (first | apply Kd.R_alloc | apply Kd.R_drewN | apply Kd.R_drew)); exact HO_365001.out) (Kd.R_base ho0) hb)
                            have n1_ := iC.mk (Kd.R_lower (Kd.R_new' ho0 (Kd.R_lt (by (with_reducible repeat (first | apply Kd.R_alloc | apply Kd.R_drewN | apply Kd.R_drew)); exact HO_365001.out))) (iJ (by repeat (first | (with_reducible first | exact HB.out | apply iF | apply iD | apply iG | refine iE ?_ GE359.out | refine iE ?_ GE364.out | refine iE ?_ GE373.out) | exact HB.out))))
                            have n2_ := iC.mk (iP (g := gb359) (o := .cells #[.int .u32 0, .slice none 0 0] 42 (0, 0)) (bk_ BK359.out) hb)
                            have n3_ := iC.mk (iP (g := gb364) (o := .cells #[.int .u32 x365000_1, .slice Ao34 x365001_1.length co34] 42 (0, 0)) (bk_ BK364.out) hb)
                            have n4_ := iC.mk (iP (g := gb373) (o := .cells #[.int .u32 0, .slice none 0 0] 42 (0, 0)) (bk_ BK373.out) hb)
                            have n5_ := iC.mk (iK (by repeat (first | (with_reducible first | exact HB.out | apply iF | apply iD | apply iG | refine iE ?_ GE359.out | refine iE ?_ GE364.out | refine iE ?_ GE373.out) | exact HB.out)) hb)
                            clear HO_365001
                            clear BK359
                            clear BK364
                            clear BK373
                            clear HB
                            have HO_365001 := n0_
                            have HO371 := n1_
                            have BK359 := n2_
                            have BK364 := n3_
                            have BK373 := n4_
                            have HB := n5_
                            clear n0_ n1_ n2_ n3_ n4_ n5_
                            (try clear hb)
                            (try clear hb2)
                            (try clear hk)
                            (try clear hi)
                            (try clear ho0)
                            refine hK.out _ _ ⟨(iI BK364.out 0).trans rfl, (iI BK364.out 1).trans rfl, ((HB.out.cell (World.block_lt_of_cell? w _ hw367_0)).trans hw367_0), ((HB.out.cell (World.block_lt_of_cell? w _ hw367_1)).trans hw367_1), ((HB.out.cell (World.block_lt_of_cell? w _ hw367_2)).trans hw367_2)⟩ (fun hHeld => ?_)
                            clear hK K
                            refine kT (a' := ?_) ?_ ?_
                            rotate_left
                            · show Act.put _ (some 59) _ = _
                              simp only [Act.put, List.setIfInBounds_toArray, List.set_cons_zero, List.set_cons_succ, iY, iZ]
                              rfl
                            refine jI (i := 14) (N := some 45) (v := ?_) (a' := ?_) #[true, true, true, true, true, true, true, true, true, true, true, true, true, true, true, false, false, true, false, false] rfl rfl (jB HT_.out (by kernel_rfl)) (fun _ _ _ h => h) (Or.inl ⟨by rfl, ?_⟩) ?_ ?_
                            rotate_left
                            · intro w'
                              go_simp
                              with_reducible rfl
                            rotate_left
                            · simp only [Act.put, List.setIfInBounds_toArray, List.set_cons_zero, List.set_cons_succ, iY, iZ]
                              rfl
                            refine jI (i := 15) (N := some 60) (v := ?_) (a' := ?_) #[true, true, true, true, true, true, true, true, true, true, true, true, true, true, true, true, false, true, false, false] rfl rfl (jB HT_.out (by kernel_rfl)) (fun _ _ _ h => h) (Or.inl ⟨by rfl, ?_⟩) ?_ ?_
                            rotate_left
                            · intro w'
                              go_simp
                              with_reducible rfl
                            rotate_left
                            · simp only [Act.put, List.setIfInBounds_toArray, List.set_cons_zero, List.set_cons_succ, iY, iZ]
                              rfl
                            refine jI (i := 16) (N := some 61) (v := ?_) (a' := ?_) #[true, true, true, true, true, true, true, true, true, true, true, true, true, true, true, true, true, true, false, false] rfl rfl (jB HT_.out (by kernel_rfl)) (fun _ _ _ h => h) (Or.inl ⟨by rfl, ?_⟩) ?_ ?_
                            rotate_left
                            · intro w'
                              go_simp
                              with_reducible rfl
                            rotate_left
                            · simp only [Act.put, List.setIfInBounds_toArray, List.set_cons_zero, List.set_cons_succ, iY, iZ]
                              rfl
                            exact kT (by simp only [mJ, Act.put, List.setIfInBounds_toArray, List.set_cons_zero, List.set_cons_succ]) (hCont (v370, gb373) _ ⟨hHeld, (by (with_reducible repeat (first | apply Kd.R_alloc | apply Kd.R_drewN | apply Kd.R_drew)); exact Kd.R_mono HO371.out (fun _ hk => hk.2)), (by (with_reducible repeat (first | apply Kd.R_alloc | apply Kd.R_drewN | apply Kd.R_drew)); exact Kd.R_mono HO_365001.out (fun _ hk => hk.2)), (bk_ BK359.out), (bk_ BK364.out), (bk_ BK373.out), GW373.out, GE373.out, NB359_373.out, NB373_359.out, NB364_373.out, NB373_364.out, (by repeat (first | (with_reducible first | exact HB.out | apply iF | apply iD | apply iG | refine iE ?_ GE359.out | refine iE ?_ GE364.out | refine iE ?_ GE373.out) | exact HB.out))⟩)
                        rintro ⟨v370, gb373⟩ w38 ⟨hS_, h0_, h1_, h2_, h3_, h4_, h5_, h6_, h7_, h8_, h9_, h10_, h11_⟩
                        have n0_ : iC (Kd.R k60 60 w38 w.heap.size (fun k_ => some k_ ≠ (.slice Ao34 x365001_1.length co34 : Value).ownBlock) v370 t369) := ⟨h0_⟩
                        have n1_ : iC (Kd.R k60 60 w38 w.heap.size (fun k_ => some k_ ≠ (v370 : Value).ownBlock) (.slice Ao34 x365001_1.length co34) x365001_1) := ⟨h1_⟩
                        have n2_ : iC (w38.heap[gb359]? = some (.cells #[.int .u32 0, .slice none 0 0] 42 (0, 0))) := ⟨h2_⟩
                        have n3_ : iC (w38.heap[gb364]? = some (.cells #[.int .u32 x365000_1, .slice Ao34 x365001_1.length co34] 42 (0, 0))) := ⟨h3_⟩
                        have n4_ : iC (w38.heap[gb373]? = some (.cells #[.int .u32 0, .slice none 0 0] 42 (0, 0))) := ⟨h4_⟩
                        have n5_ : iC (w.heap.size ≤ gb373) := ⟨h5_⟩
                        have n6_ : iC (w.heap.size ≤ gb373) := ⟨h6_⟩
                        have n7_ : iC (gb359 ≠ gb373) := ⟨h7_⟩
                        have n8_ : iC (gb373 ≠ gb359) := ⟨h8_⟩
                        have n9_ : iC (gb364 ≠ gb373) := ⟨h9_⟩
                        have n10_ : iC (gb373 ≠ gb364) := ⟨h10_⟩
                        have n11_ : iC (Below w.heap.size w w38) := ⟨h11_⟩
                        clear HO_365001
                        clear BK359
                        clear BK364
                        clear HB
                        clear h0_ h1_ h2_ h3_ h4_ h5_ h6_ h7_ h8_ h9_ h10_ h11_
                        have HO371 := n0_
                        have HO_365001 := n1_
                        have BK359 := n2_
                        have BK364 := n3_
                        have BK373 := n4_
                        have GW373 := n5_
                        have GE373 := n6_
                        have NB359_373 := n7_
                        have NB373_359 := n8_
                        have NB364_373 := n9_
                        have NB373_364 := n10_
                        have HB := n11_
                        clear n0_ n1_ n2_ n3_ n4_ n5_ n6_ n7_ n8_ n9_ n10_ n11_
                        have hHeld : w38.cell? ⟨gb364, 0, none⟩ = some (.int .u32 x365000_1) ∧ w38.cell? ⟨gb364, 1, none⟩ = some (.slice Ao34 x365001_1.length co34) ∧ w38.cell? (ad365.add ((x8_1).toNat * 3)) = some (.int .u16 ((jF l2 x8_1).f0)) ∧ w38.cell? ⟨(ad365.add ((x8_1).toNat * 3)).block, (ad365.add ((x8_1).toNat * 3)).off + 1, none⟩ = some (.int .u16 ((jF l2 x8_1).f1)) ∧ w38.cell? ⟨(ad365.add ((x8_1).toNat * 3)).block, (ad365.add ((x8_1).toNat * 3)).off + 2, none⟩ = some (.int .u8 ((jF l2 x8_1).f2)) := hS_
                        obtain ⟨Ao40, co40, eo40⟩ := Kd.R_slice HO371.out
                        (first | subst eo40 | (injection eo40 with f1_ f2_ f3_; have f4_ := f1_.symm; have f5_ := f3_.symm; clear f1_ f2_ f3_; subst f4_; subst f5_))
                        refine kT (a' := ?_) ?_ ?_
                        rotate_left
                        · simp only [mJ, Act.put, List.setIfInBounds_toArray, List.set_cons_zero, List.set_cons_succ]
                          rfl
                        refine one_ (i := 18) (N := none) #[true, true, true, true, true, true, true, true, true, true, true, true, true, true, true, true, true, true, true, false] rfl rfl (kQ HT_.out (by kernel_rfl)) (by decide) (fun K hK => ?_)
                        have hs39 : w38.cell? ⟨gb373, 0, none⟩ = some (.int .u32 0) := (iI BK373.out 0).trans rfl
                        have hfs39 := iH BK373.out 0
                        have hns39_0 := NB359_373.out
                        have hns39_1 := NB364_373.out
                        have hms39_0 := NB373_359.out
                        have hms39_1 := NB373_364.out
                        have hs41 : w38.cell? ⟨gb373, 1, none⟩ = some (.slice none 0 0) := (iI BK373.out 1).trans rfl
                        have hfs41 := iH BK373.out 1
                        have hns41_0 := NB359_373.out
                        have hns41_1 := NB364_373.out
                        have hms41_0 := NB373_359.out
                        have hms41_1 := NB373_364.out
                        refine zS (w1 := ?_) (by rfl) rfl ?_ ?_
                        rotate_left
                        · go_simp
                          rfl
                        refine hK.out _ _ ⟨((cell_far (p := ⟨gb373, _, none⟩) NB364_373.out _).trans (((cell_far (p := ⟨gb373, _, none⟩) NB364_373.out _).trans (hHeld.1)))), ((cell_far (p := ⟨gb373, _, none⟩) NB364_373.out _).trans (((cell_far (p := ⟨gb373, _, none⟩) NB364_373.out _).trans (hHeld.2.1)))), ((cell_far (p := ⟨gb373, _, none⟩) (by first | exact Nat.ne_of_lt (Nat.lt_of_lt_of_le (by have := World.block_lt_of_cell? _ _ hw367_0; first | rwa [add_block] at this | exact this) GW373.out) | (rw [add_block]; exact Nat.ne_of_lt (Nat.lt_of_lt_of_le (by have := World.block_lt_of_cell? _ _ hw367_0; first | rwa [add_block] at this | exact this) GW373.out)) | (show (Addr.add _ _).block ≠ _; rw [add_block]; exact Nat.ne_of_lt (Nat.lt_of_lt_of_le (by have := World.block_lt_of_cell? _ _ hw367_0; first | rwa [add_block] at this | exact this) GW373.out)) | (dsimp only; exact Nat.ne_of_lt (Nat.lt_of_lt_of_le (by have := World.block_lt_of_cell? _ _ hw367_0; first | rwa [add_block] at this | exact this) GW373.out))) _).trans (((cell_far (p := ⟨gb373, _, none⟩) (by first | exact Nat.ne_of_lt (Nat.lt_of_lt_of_le (by have := World.block_lt_of_cell? _ _ hw367_0; first | rwa [add_block] at this | exact this) GW373.out) | (rw [add_block]; exact Nat.ne_of_lt (Nat.lt_of_lt_of_le (by have := World.block_lt_of_cell? _ _ hw367_0; first | rwa [add_block] at this | exact this) GW373.out)) | (show (Addr.add _ _).block ≠ _; rw [add_block]; exact Nat.ne_of_lt (Nat.lt_of_lt_of_le (by have := World.block_lt_of_cell? _ _ hw367_0; first | rwa [add_block] at this | exact this) GW373.out)) | (dsimp only; exact Nat.ne_of_lt (Nat.lt_of_lt_of_le (by have := World.block_lt_of_cell? _ _ hw367_0; first | rwa [add_block] at this | exact this) GW373.out))) _).trans (hHeld.2.2.1)))), ((cell_far (p := ⟨gb373, _, none⟩) (by first | exact Nat.ne_of_lt (Nat.lt_of_lt_of_le (by have := World.block_lt_of_cell? _ _ hw367_1; first | rwa [add_block] at this | exact this) GW373.out) | (rw [add_block]; exact Nat.ne_of_lt (Nat.lt_of_lt_of_le (by have := World.block_lt_of_cell? _ _ hw367_1; first | rwa [add_block] at this | exact this) GW373.out)) | (show (Addr.add _ _).block ≠ _; rw [add_block]; exact Nat.ne_of_lt (Nat.lt_of_lt_of_le (by have := World.block_lt_of_cell? _ _ hw367_1; first | rwa [add_block] at this | exact this) GW373.out)) | (dsimp only; exact Nat.ne_of_lt (Nat.lt_of_lt_of_le (by have := World.block_lt_of_cell? _ _ hw367_1; first | rwa [add_block] at this | exact this) GW373.out))) _).trans (((cell_far (p := ⟨gb373, _, none⟩) (by first | exact Nat.ne_of_lt (Nat.lt_of_lt_of_le (by have := World.block_lt_of_cell? _ _ hw367_1; first | rwa [add_block] at this | exact this) GW373.out) | (rw [add_block]; exact Nat.ne_of_lt (Nat.lt_of_lt_of_le (by have := World.block_lt_of_cell? _ _ hw367_1; first | rwa [add_block] at this | exact this) GW373.out)) | (show (Addr.add _ _).block ≠ _; rw [add_block]; exact Nat.ne_of_lt (Nat.lt_of_lt_of_le (by have := World.block_lt_of_cell? _ _ hw367_1; first | rwa [add_block] at this | exact this) GW373.out)) | (dsimp only; exact Nat.ne_of_lt (Nat.lt_of_lt_of_le (by have := World.block_lt_of_cell? _ _ hw367_1; first | rwa [add_block] at this | exact this) GW373.out))) _).trans (hHeld.2.2.2.1)))), ((cell_far (p := ⟨gb373, _, none⟩) (by first | exact Nat.ne_of_lt (Nat.lt_of_lt_of_le (by have := World.block_lt_of_cell? _ _ hw367_2; first | rwa [add_block] at this | exact this) GW373.out) | (rw [add_block]; exact Nat.ne_of_lt (Nat.lt_of_lt_of_le (by have := World.block_lt_of_cell? _ _ hw367_2; first | rwa [add_block] at this | exact this) GW373.out)) | (show (Addr.add _ _).block ≠ _; rw [add_block]; exact Nat.ne_of_lt (Nat.lt_of_lt_of_le (by have := World.block_lt_of_cell? _ _ hw367_2; first | rwa [add_block] at this | exact this) GW373.out)) | (dsimp only; exact Nat.ne_of_lt (Nat.lt_of_lt_of_le (by have := World.block_lt_of_cell? _ _ hw367_2; first | rwa [add_block] at this | exact this) GW373.out))) _).trans (((cell_far (p := ⟨gb373, _, none⟩) (by first | exact Nat.ne_of_lt (Nat.lt_of_lt_of_le (by have := World.block_lt_of_cell? _ _ hw367_2; first | rwa [add_block] at this | exact this) GW373.out) | (rw [add_block]; exact Nat.ne_of_lt (Nat.lt_of_lt_of_le (by have := World.block_lt_of_cell? _ _ hw367_2; first | rwa [add_block] at this | exact this) GW373.out)) | (show (Addr.add _ _).block ≠ _; rw [add_block]; exact Nat.ne_of_lt (Nat.lt_of_lt_of_le (by have := World.block_lt_of_cell? _ _ hw367_2; first | rwa [add_block] at this | exact this) GW373.out)) | (dsimp only; exact Nat.ne_of_lt (Nat.lt_of_lt_of_le (by have := World.block_lt_of_cell? _ _ hw367_2; first | rwa [add_block] at this | exact this) GW373.out))) _).trans (hHeld.2.2.2.2))))⟩ (fun hHeld => ?_)
                        clear hK K
                        refine jI (i := 19) (N := some 12) (v := ?_) (a' := ?_) #[true, true, true, true, true, true, true, true, true, true, true, true, true, true, true, true, true, true, true, true] rfl rfl (jB HT_.out (by kernel_rfl)) (fun _ _ _ h => h) (Or.inl ⟨by rfl, ?_⟩) ?_ ?_
                        rotate_left
                        · intro w'
                          go_simp
                          with_reducible rfl
                        rotate_left
                        · simp only [Act.put, List.setIfInBounds_toArray, List.set_cons_zero, List.set_cons_succ, iY, iZ]
                          rfl
                        refine nU (kY HT_.out (by kernel_rfl)) ?_
                        try go_wp2
                        go_roundg kj10
                        case measure => have := HK1.out; have := HJ10.out; omega
                        case rel => exact ⟨(wrap64 (x8_1 + 1)), (x365000_1), (x365001_1), (.slice Ao34 x365001_1.length co34), (by first | rfl | (simp; done) | (simp [*]; done)), H', ⟨by have := HK1.out; have := HJ10.out; omega⟩, ⟨by (with_reducible repeat (first | apply Kd.R_alloc | apply Kd.R_drewN | apply Kd.R_drew)); exact Kd.R_mono (Kd.R_far (p := ⟨gb373, 1, none⟩) (Kd.R_far (p := ⟨gb373, 0, none⟩) (Kd.R_types HO_365001.out BK373.out (by decide)) (fun _ hk => hk.2) (.int .u32 t368)) (fun _ hk => hk.2) (.slice Ao40 t369.length co40)) (fun _ hk => trivial)⟩, ⟨by (with_reducible repeat (first | refine iM ?_ _ | refine iO ?_ | refine iL ?_ _)); refine jH ?_ NB359_373.out _; (with_reducible repeat (first | refine iM ?_ _ | refine iO ?_ | refine iL ?_ _)); refine jH ?_ NB359_373.out _; (with_reducible repeat (first | refine iM ?_ _ | refine iO ?_ | refine iL ?_ _)); exact BK359.out⟩, ⟨by (with_reducible repeat (first | refine iM ?_ _ | refine iO ?_ | refine iL ?_ _)); refine jH ?_ NB364_373.out _; (with_reducible repeat (first | refine iM ?_ _ | refine iO ?_ | refine iL ?_ _)); refine jH ?_ NB364_373.out _; (with_reducible repeat (first | refine iM ?_ _ | refine iO ?_ | refine iL ?_ _)); exact BK364.out⟩, ⟨by repeat (first | (with_reducible first | exact HB.out | apply iF | apply iD | apply iG | refine iE ?_ GE359.out | refine iE ?_ GE364.out | refine iE ?_ GE373.out) | exact HB.out)⟩⟩
              · rw [if_neg c15] at H
                exact absurd H (by simp)
            · rw [if_neg c14] at H
              exact absurd H (by simp)
          · replace c13 := Bool.eq_false_iff.mpr c13
            subst c13
            have H1 : (some (x365000_1, x365001_1)) = some (r1, r2) := by rw [if_neg (show ¬ (false = true) by decide)] at H; exact H
            clear H
            have H := H1
            clear H1
            simp only [Option.some.injEq, Prod.mk.injEq] at H
            obtain ⟨rfl, rfl⟩ := H
            have hnb42 := NB364_359.out
            have hnc42 := NB359_364.out
            have hcz43_0 : wc.cell? ⟨gb364, 0, none⟩ = some (.int .u32 x365000_1) := (iI BK364.out 0).trans rfl
            have hcz43_1 : wc.cell? ⟨gb364, 1, none⟩ = some (u365001) := (iI BK364.out 1).trans rfl
            have hfz43_0 := iH BK364.out 0
            have hfz43_1 := iH BK364.out 1
            have hcz44_0 : wc.cell? ⟨gb359, 0, none⟩ = some (.int .u32 0) := (iI BK359.out 0).trans rfl
            have hcz44_1 : wc.cell? ⟨gb359, 1, none⟩ = some (.slice none 0 0) := (iI BK359.out 1).trans rfl
            have hfz44_0 := iH BK359.out 0
            have hfz44_1 := iH BK359.out 1
            obtain ⟨Ao45, co45, eo45⟩ := Kd.R_slice HO_365001.out
            subst eo45
            go_wp2
            refine bodyPost_ret (results_cell_row rfl _ _ gb359 42 #[.int .u32 x365000_1, .slice Ao45 x365001_1.length co45] (0, 0) _ rfl (by (with_reducible repeat (first | refine iM ?_ _ | refine iO ?_ | refine iL ?_ _)); refine jD (cs := #[.int .u32 x365000_1, .slice none 0 0]) ?_ 1 _ rfl; (with_reducible repeat (first | refine iM ?_ _ | refine iO ?_ | refine iL ?_ _)); refine jD (cs := #[.int .u32 0, .slice none 0 0]) ?_ 0 _ rfl; (with_reducible repeat (first | refine iM ?_ _ | refine iO ?_ | refine iL ?_ _)); exact BK359.out) Try.underlying42 rfl (by kernel_rfl)) rfl ?_
            exact ⟨_, by first | rfl | (simp [iR, iQ] <;> rfl) | (simp [*, iR, iQ] <;> rfl), by (with_reducible repeat (first | apply Kd.R_alloc | apply Kd.R_drewN | apply Kd.R_drew)); exact Kd.R_mono (Kd.R_far (p := ⟨gb359, 1, none⟩) (Kd.R_far (p := ⟨gb359, 0, none⟩) (Kd.R_types HO_365001.out BK359.out (by decide)) (fun _ hk => hk.2) (.int .u32 x365000_1)) (fun _ hk => hk.2) (.slice Ao45 x365001_1.length co45)) (fun _ hk => trivial), by repeat (first | (with_reducible first | exact HB.out | apply iF | apply iD | apply iG | refine iE ?_ GE359.out | refine iE ?_ GE364.out) | exact HB.out)⟩
end Go.Proofs.Ytbpdejbkfpkphaa.K
end

section
namespace Go.Proofs.Ytbpdejbkfpkphaa.K
open Go.RowKit Go.Proofs.YtbpdejbkfpkphaaW.PrintWords Go.Proofs.YtbpdejbkfpkphaaW.PrintLast Go.Proofs.YtbpdejbkfpkphaaW.PrintMore
attribute [local go_sem] jU jT jZ jY jO jP jW jV
attribute [local go_sem high] zA
mutual
def stratumref07_SameMap.j0 : Nat → Bool → Int → List (S60) → Int → List (S60) → Option (Bool)
  | 0, _, _, _, _, _ => none
  | k + 1, x19, x436000, x436001, x437000, x437001 => if x19 = true then (some false) else (stratumref07_SameMap.l0 k 0 x436000 x436001 x437000 x437001)
def stratumref07_SameMap.l0 : Nat → Int → Int → List (S60) → Int → List (S60) → Option (Bool)
  | 0, _, _, _, _, _ => none
  | k + 1, x5, x436000, x436001, x437000, x437001 => if x5 < (x436001.length : Int) then (if 0 ≤ x5 then (if x5 < (x437001.length : Int) then (if (!(((iT x436001 x5).f0) == ((iT x437001 x5).f0)) || (!(((iT x436001 x5).f1) == ((iT x437001 x5).f1)))) = true then (some false) else (stratumref07_SameMap.l0 k (wrap64 (x5 + 1)) x436000 x436001 x437000 x437001)) else (none)) else (none)) else (some true)
end
def stratumref07_SameMap.f (k : Nat) (a0_0 : Int) (l0_1 : List (S60)) (a1_0 : Int) (l1_1 : List (S60)) : Option (Bool) := if a0_0 = a1_0 then (stratumref07_SameMap.j0 k ((l0_1.length : Int) != (l1_1.length : Int)) a0_0 l0_1 a1_0 l1_1) else (stratumref07_SameMap.j0 k true a0_0 l0_1 a1_0 l1_1)
theorem stratumref07_SameMap.mono_l : ∀ k, (∀ y0 y1 y2 y3 y4, LeO (stratumref07_SameMap.j0 k y0 y1 y2 y3 y4) (stratumref07_SameMap.j0 (k + 1) y0 y1 y2 y3 y4)) ∧ (∀ y0 y1 y2 y3 y4, LeO (stratumref07_SameMap.l0 k y0 y1 y2 y3 y4) (stratumref07_SameMap.l0 (k + 1) y0 y1 y2 y3 y4))
  | 0 => ⟨fun _ _ _ _ _ r h => by simp [stratumref07_SameMap.j0] at h, fun _ _ _ _ _ r h => by simp [stratumref07_SameMap.l0] at h⟩
  | k + 1 => by
    obtain ⟨ih0, ih1⟩ := stratumref07_SameMap.mono_l k
    refine ⟨?_, ?_⟩
    · intro y0 y1 y2 y3 y4
      unfold stratumref07_SameMap.j0
      repeat' first
      | (with_reducible exact ih0 _ _ _ _ _)
      | (with_reducible exact ih1 _ _ _ _ _)
      | (with_reducible exact LeO.refl _)
      | (with_reducible exact LeO.none _)
      | (with_reducible refine LeO.ite ?_ ?_)
      | (with_reducible refine LeO.bind ?_ (fun _ => ?_))
      | exact ih0 _ _ _ _ _
      | exact ih1 _ _ _ _ _
      | exact LeO.none _
      | refine LeO.ite ?_ ?_
      | refine LeO.bind ?_ (fun _ => ?_)
    · intro y0 y1 y2 y3 y4
      unfold stratumref07_SameMap.l0
      repeat' first
      | (with_reducible exact ih0 _ _ _ _ _)
      | (with_reducible exact ih1 _ _ _ _ _)
      | (with_reducible exact LeO.refl _)
      | (with_reducible exact LeO.none _)
      | (with_reducible refine LeO.ite ?_ ?_)
      | (with_reducible refine LeO.bind ?_ (fun _ => ?_))
      | exact ih0 _ _ _ _ _
      | exact ih1 _ _ _ _ _
      | exact LeO.none _
      | refine LeO.ite ?_ ?_
      | refine LeO.bind ?_ (fun _ => ?_)
theorem stratumref07_SameMap.mono : ∀ a0 a1 a2 a3 k, LeO (stratumref07_SameMap.f k a0 a1 a2 a3) (stratumref07_SameMap.f (k + 1) a0 a1 a2 a3) := by
  intro a0 a1 a2 a3 k
  obtain ⟨ih0, ih1⟩ := stratumref07_SameMap.mono_l k
  unfold stratumref07_SameMap.f
  repeat' first
      | (with_reducible exact ih0 _ _ _ _ _)
      | (with_reducible exact ih1 _ _ _ _ _)
      | (with_reducible exact LeO.refl _)
      | (with_reducible exact LeO.none _)
      | (with_reducible refine LeO.ite ?_ ?_)
      | (with_reducible refine LeO.bind ?_ (fun _ => ?_))
      | exact ih0 _ _ _ _ _
      | exact ih1 _ _ _ _ _
      | exact LeO.none _
      | refine LeO.ite ?_ ?_
      | refine LeO.bind ?_ (fun _ => ?_)
set_option maxHeartbeats 8000000 in
set_option maxRecDepth 100000 in
theorem stratumref07_SameMap.calls (k : Nat) (a0_0 : Int) (A0_1 : Option Addr) (c0_1 : Nat) (l0_1 : List (S60)) (a1_0 : Int) (A1_1 : Option Addr) (c1_1 : Nat) (l1_1 : List (S60)) (r : Bool) (w : World) (hr0_1 : Kd.C k60 w A0_1 l0_1.length l0_1) (hc0_1 : l0_1.length ≤ c0_1) (hr1_1 : Kd.C k60 w A1_1 l1_1.length l1_1) (hc1_1 : l1_1.length ≤ c1_1) (h : stratumref07_SameMap.f k a0_0 l0_1 a1_0 l1_1 = some r) :
    Calls Try.prog 37 #[.agg #[.int .u32 a0_0, .slice A0_1 l0_1.length c0_1], .agg #[.int .u32 a1_0, .slice A1_1 l1_1.length c1_1]] w fun e w' => e = .returned (.bool r) ∧ Below w.heap.size w w' := by
  have hu42 := Try.underlying42
  have hu60 := Try.underlying60
  have HR0_1 := iC.mk hr0_1
  have HC0_1 := iC.mk hc0_1
  clear hr0_1 hc0_1
  have HR1_1 := iC.mk hr1_1
  have HC1_1 := iC.mk hc1_1
  clear hr1_1 hc1_1
  have HB := iC.mk (Below.refl w.heap.size w)
  have H : (if a0_0 = a1_0 then (stratumref07_SameMap.j0 k ((l0_1.length : Int) != (l1_1.length : Int)) a0_0 l0_1 a1_0 l1_1) else (stratumref07_SameMap.j0 k true a0_0 l0_1 a1_0 l1_1)) = some r := h
  clear h
  have HC3 := iC.mk H
  clear H
  go_enter Try.func37, Try.ntmps37
  go_upto_region 1 with (first | ((with_reducible refine jC (N := 2) rfl ?_); (try (refine iW (by rfl) ?_; dsimp only)); refine jA ?hg (N := 2) ?hd (cs := #[.int .u32 a0_0, .slice A0_1 l0_1.length c0_1]) (t := 42) ?hr ?_; (case hd => rfl); (case hg => rfl); (case hr => first | (go_simp; done) | (go_simp; rfl)); intro gb435 hg w4 hbox hb; have n0_ := iC.mk (iK hb_ hb); have n1_ := iC.mk (hbox); have n2_ := iC.mk ((by rw [hg]; exact (iJ hb_) : w.heap.size ≤ gb435)); have n3_ := iC.mk ((by rw [hg]; exact (iJ hb_) : w.heap.size ≤ gb435)); clear HB; have HB := n0_; have BK435 := n1_; have GW435 := n2_; have GE435 := n3_; clear n0_ n1_ n2_ n3_; clear hb hbox hg) | ((with_reducible refine jC (N := 3) rfl ?_); (try (refine iW (by rfl) ?_; dsimp only)); refine jA ?hg (N := 3) ?hd (cs := #[.int .u32 a1_0, .slice A1_1 l1_1.length c1_1]) (t := 42) ?hr ?_; (case hd => rfl); (case hg => rfl); (case hr => first | (go_simp; done) | (go_simp; rfl)); intro gb436 hg w5 hbox hb; have n0_ := iC.mk (iP (g := gb435) (o := .cells #[.int .u32 a0_0, .slice A0_1 l0_1.length c0_1] 42 (0, 0)) (bk_ BK435.out) hb); have n1_ := iC.mk (iK (by repeat (first | (with_reducible first | exact HB.out | apply iF | apply iD | apply iG | refine iE ?_ GE435.out) | exact HB.out)) hb); have n2_ := iC.mk (hbox); have n3_ := iC.mk ((by rw [hg]; exact (iJ (by repeat (first | (with_reducible first | exact HB.out | apply iF | apply iD | apply iG | refine iE ?_ GE435.out) | exact HB.out))) : w.heap.size ≤ gb436)); have n4_ := iC.mk ((by rw [hg]; exact (iJ (by repeat (first | (with_reducible first | exact HB.out | apply iF | apply iD | apply iG | refine iE ?_ GE435.out) | exact HB.out))) : w.heap.size ≤ gb436)); have n5_ := iC.mk ((by rw [hg]; exact Nat.ne_of_lt (jE (g := gb435) (o := .cells #[.int .u32 a0_0, .slice A0_1 l0_1.length c0_1] 42 (0, 0)) (bk_ BK435.out)) : gb435 ≠ gb436)); have n6_ := iC.mk ((by rw [hg]; exact Nat.ne_of_gt (jE (g := gb435) (o := .cells #[.int .u32 a0_0, .slice A0_1 l0_1.length c0_1] 42 (0, 0)) (bk_ BK435.out)) : gb436 ≠ gb435)); clear BK435; clear HB; have BK435 := n0_; have HB := n1_; have BK436 := n2_; have GW436 := n3_; have GE436 := n4_; have NB435_436 := n5_; have NB436_435 := n6_; clear n0_ n1_ n2_ n3_ n4_ n5_ n6_; clear hb hbox hg))
  repeat (go_quiet (first | ((with_reducible refine jC (N := 2) rfl ?_); (try (refine iW (by rfl) ?_; dsimp only)); refine jA ?hg (N := 2) ?hd (cs := #[.int .u32 a0_0, .slice A0_1 l0_1.length c0_1]) (t := 42) ?hr ?_; (case hd => rfl); (case hg => rfl); (case hr => first | (go_simp; done) | (go_simp; rfl)); intro gb435 hg w4 hbox hb; have n0_ := iC.mk (iK hb_ hb); have n1_ := iC.mk (hbox); have n2_ := iC.mk ((by rw [hg]; exact (iJ hb_) : w.heap.size ≤ gb435)); have n3_ := iC.mk ((by rw [hg]; exact (iJ hb_) : w.heap.size ≤ gb435)); clear HB; have HB := n0_; have BK435 := n1_; have GW435 := n2_; have GE435 := n3_; clear n0_ n1_ n2_ n3_; clear hb hbox hg) | ((with_reducible refine jC (N := 3) rfl ?_); (try (refine iW (by rfl) ?_; dsimp only)); refine jA ?hg (N := 3) ?hd (cs := #[.int .u32 a1_0, .slice A1_1 l1_1.length c1_1]) (t := 42) ?hr ?_; (case hd => rfl); (case hg => rfl); (case hr => first | (go_simp; done) | (go_simp; rfl)); intro gb436 hg w5 hbox hb; have n0_ := iC.mk (iP (g := gb435) (o := .cells #[.int .u32 a0_0, .slice A0_1 l0_1.length c0_1] 42 (0, 0)) (bk_ BK435.out) hb); have n1_ := iC.mk (iK (by repeat (first | (with_reducible first | exact HB.out | apply iF | apply iD | apply iG | refine iE ?_ GE435.out) | exact HB.out)) hb); have n2_ := iC.mk (hbox); have n3_ := iC.mk ((by rw [hg]; exact (iJ (by repeat (first | (with_reducible first | exact HB.out | apply iF | apply iD | apply iG | refine iE ?_ GE435.out) | exact HB.out))) : w.heap.size ≤ gb436)); have n4_ := iC.mk ((by rw [hg]; exact (iJ (by repeat (first | (with_reducible first | exact HB.out | apply iF | apply iD | apply iG | refine iE ?_ GE435.out) | exact HB.out))) : w.heap.size ≤ gb436)); have n5_ := iC.mk ((by rw [hg]; exact Nat.ne_of_lt (jE (g := gb435) (o := .cells #[.int .u32 a0_0, .slice A0_1 l0_1.length c0_1] 42 (0, 0)) (bk_ BK435.out)) : gb435 ≠ gb436)); have n6_ := iC.mk ((by rw [hg]; exact Nat.ne_of_gt (jE (g := gb435) (o := .cells #[.int .u32 a0_0, .slice A0_1 l0_1.length c0_1] 42 (0, 0)) (bk_ BK435.out)) : gb436 ≠ gb435)); clear BK435; clear HB; have BK435 := n0_; have HB := n1_; have BK436 := n2_; have GW436 := n3_; have GE436 := n4_; have NB435_436 := n5_; have NB436_435 := n6_; clear n0_ n1_ n2_ n3_ n4_ n5_ n6_; clear hb hbox hg)); go_upto_region 1 with (first | ((with_reducible refine jC (N := 2) rfl ?_); (try (refine iW (by rfl) ?_; dsimp only)); refine jA ?hg (N := 2) ?hd (cs := #[.int .u32 a0_0, .slice A0_1 l0_1.length c0_1]) (t := 42) ?hr ?_; (case hd => rfl); (case hg => rfl); (case hr => first | (go_simp; done) | (go_simp; rfl)); intro gb435 hg w4 hbox hb; have n0_ := iC.mk (iK hb_ hb); have n1_ := iC.mk (hbox); have n2_ := iC.mk ((by rw [hg]; exact (iJ hb_) : w.heap.size ≤ gb435)); have n3_ := iC.mk ((by rw [hg]; exact (iJ hb_) : w.heap.size ≤ gb435)); clear HB; have HB := n0_; have BK435 := n1_; have GW435 := n2_; have GE435 := n3_; clear n0_ n1_ n2_ n3_; clear hb hbox hg) | ((with_reducible refine jC (N := 3) rfl ?_); (try (refine iW (by rfl) ?_; dsimp only)); refine jA ?hg (N := 3) ?hd (cs := #[.int .u32 a1_0, .slice A1_1 l1_1.length c1_1]) (t := 42) ?hr ?_; (case hd => rfl); (case hg => rfl); (case hr => first | (go_simp; done) | (go_simp; rfl)); intro gb436 hg w5 hbox hb; have n0_ := iC.mk (iP (g := gb435) (o := .cells #[.int .u32 a0_0, .slice A0_1 l0_1.length c0_1] 42 (0, 0)) (bk_ BK435.out) hb); have n1_ := iC.mk (iK (by repeat (first | (with_reducible first | exact HB.out | apply iF | apply iD | apply iG | refine iE ?_ GE435.out) | exact HB.out)) hb); have n2_ := iC.mk (hbox); have n3_ := iC.mk ((by rw [hg]; exact (iJ (by repeat (first | (with_reducible first | exact HB.out | apply iF | apply iD | apply iG | refine iE ?_ GE435.out) | exact HB.out))) : w.heap.size ≤ gb436)); have n4_ := iC.mk ((by rw [hg]; exact (iJ (by repeat (first | (with_reducible first | exact HB.out | apply iF | apply iD | apply iG | refine iE ?_ GE435.out) | exact HB.out))) : w.heap.size ≤ gb436)); have n5_ := iC.mk ((by rw [hg]; exact Nat.ne_of_lt (jE (g := gb435) (o := .cells #[.int .u32 a0_0, .slice A0_1 l0_1.length c0_1] 42 (0, 0)) (bk_ BK435.out)) : gb435 ≠ gb436)); have n6_ := iC.mk ((by rw [hg]; exact Nat.ne_of_gt (jE (g := gb435) (o := .cells #[.int .u32 a0_0, .slice A0_1 l0_1.length c0_1] 42 (0, 0)) (bk_ BK435.out)) : gb436 ≠ gb435)); clear BK435; clear HB; have BK435 := n0_; have HB := n1_; have BK436 := n2_; have GW436 := n3_; have GE436 := n4_; have NB435_436 := n5_; have NB436_435 := n6_; clear n0_ n1_ n2_ n3_ n4_ n5_ n6_; clear hb hbox hg)))
  (try simp only [Act.put, List.setIfInBounds_toArray, List.set_cons_zero, List.set_cons_succ])
  go_cut [19] (fun v19 wc => ∃ (kq : Nat) (x19_2 : Bool), v19 = .bool x19_2 ∧ iC (stratumref07_SameMap.j0 kq x19_2 a0_0 l0_1 a1_0 l1_1 = some r) ∧ iC (kq ≤ k) ∧ iC (wc.heap[gb435]? = some (.cells #[.int .u32 a0_0, (.slice A0_1 l0_1.length c0_1)] 42 (0, 0))) ∧ iC (wc.heap[gb436]? = some (.cells #[.int .u32 a1_0, (.slice A1_1 l1_1.length c1_1)] 42 (0, 0))) ∧ iC (Below w.heap.size w wc))
  case first =>
    have H := HC3.out
    clear HC3
    by_cases c6 : a0_0 = a1_0
    · rw [if_pos c6] at H
      have c6b0 : (a0_0 == a1_0) = true := beq_iff_eq.mpr c6
      have c6b1 : (a0_0 != a1_0) = false := bne_eq_false_iff_eq.mpr c6
      clear c6
      (first | rw [c6b0] | (simp only [iY, iZ]; rw [c6b0]) | skip)
      have H' := iC.mk H
      clear H
      have hnb7 := NB435_436.out
      have hnc7 := NB436_435.out
      have hcz8_0 : w5.cell? ⟨gb435, 0, none⟩ = some (.int .u32 a0_0) := (iI BK435.out 0).trans rfl
      have hcz8_1 : w5.cell? ⟨gb435, 1, none⟩ = some (.slice A0_1 l0_1.length c0_1) := (iI BK435.out 1).trans rfl
      have hfz8_0 := iH BK435.out 0
      have hfz8_1 := iH BK435.out 1
      have hcz9_0 : w5.cell? ⟨gb436, 0, none⟩ = some (.int .u32 a1_0) := (iI BK436.out 0).trans rfl
      have hcz9_1 : w5.cell? ⟨gb436, 1, none⟩ = some (.slice A1_1 l1_1.length c1_1) := (iI BK436.out 1).trans rfl
      have hfz9_0 := iH BK436.out 0
      have hfz9_1 := iH BK436.out 1
      go_wp2
      repeat (go_quiet (fail); try go_wp2)
      go_meet
      case rel => exact ⟨_, (((l0_1.length : Int) != (l1_1.length : Int))), (by first | rfl | (simp; done) | (simp [*]; done)), H', ⟨by first | omega | exact Nat.le_refl _⟩, ⟨bk_ BK435.out⟩, ⟨bk_ BK436.out⟩, ⟨by repeat (first | (with_reducible first | exact HB.out | apply iF | apply iD | apply iG | refine iE ?_ GE435.out | refine iE ?_ GE436.out) | exact HB.out)⟩⟩
    · rw [if_neg c6] at H
      have c6b0 : (a0_0 == a1_0) = false := beq_eq_false_iff_ne.mpr c6
      have c6b1 : (a0_0 != a1_0) = true := bne_iff_ne.mpr c6
      (first | rw [c6b0] | (simp only [iY, iZ]; rw [c6b0]) | skip)
      have H' := iC.mk H
      clear H
      have hnb10 := NB435_436.out
      have hnc10 := NB436_435.out
      have hcz11_0 : w5.cell? ⟨gb435, 0, none⟩ = some (.int .u32 a0_0) := (iI BK435.out 0).trans rfl
      have hcz11_1 : w5.cell? ⟨gb435, 1, none⟩ = some (.slice A0_1 l0_1.length c0_1) := (iI BK435.out 1).trans rfl
      have hfz11_0 := iH BK435.out 0
      have hfz11_1 := iH BK435.out 1
      have hcz12_0 : w5.cell? ⟨gb436, 0, none⟩ = some (.int .u32 a1_0) := (iI BK436.out 0).trans rfl
      have hcz12_1 : w5.cell? ⟨gb436, 1, none⟩ = some (.slice A1_1 l1_1.length c1_1) := (iI BK436.out 1).trans rfl
      have hfz12_0 := iH BK436.out 0
      have hfz12_1 := iH BK436.out 1
      go_wp2
      repeat (go_quiet (fail); try go_wp2)
      go_meet
      case rel => exact ⟨_, (true), (by first | rfl | (simp; done) | (simp [*]; done)), H', ⟨by first | omega | exact Nat.le_refl _⟩, ⟨bk_ BK435.out⟩, ⟨bk_ BK436.out⟩, ⟨by repeat (first | (with_reducible first | exact HB.out | apply iF | apply iD | apply iG | refine iE ?_ GE435.out | refine iE ?_ GE436.out) | exact HB.out)⟩⟩
  case rest =>
    clear HC3
    try clear c1
    try clear p2
    try clear c3
    try clear c6
    try clear c6b0
    try clear c6b1
    try clear c7
    try clear c10
    try clear hcz11_0
    try clear hcz11_1
    try clear hcz12_0
    try clear hcz12_1
    try clear hcz8_0
    try clear hcz8_1
    try clear hcz9_0
    try clear hcz9_1
    try clear hfz11_0
    try clear hfz11_1
    try clear hfz12_0
    try clear hfz12_1
    try clear hfz8_0
    try clear hfz8_1
    try clear hfz9_0
    try clear hfz9_1
    obtain ⟨kq, x19_2, rfl, HA, HJ2, BK435, BK436, HB⟩ := hcut
    cases kq with
    | zero => exact absurd HA.out (by simp [stratumref07_SameMap.j0])
    | succ kj2 =>
      have H := HA.out
      clear HA
      simp only [stratumref07_SameMap.j0] at H
      by_cases c13 : x19_2 = true
      · subst c13
        have H1 : (some false) = some r := by rw [if_pos rfl] at H; exact H
        clear H
        have H := H1
        clear H1
        obtain rfl := Option.some.inj H
        go_wp2
        repeat (go_quiet (fail); try go_wp2)
        go_ret
        exact ⟨by first | rfl | (simp [iR, iQ] <;> rfl) | (simp [*, iR, iQ] <;> rfl), by repeat (first | (with_reducible first | exact HB.out | apply iF | apply iD | apply iG | refine iE ?_ GE435.out | refine iE ?_ GE436.out) | exact HB.out)⟩
      · replace c13 := Bool.eq_false_iff.mpr c13
        subst c13
        have H1 : (stratumref07_SameMap.l0 kj2 0 a0_0 l0_1 a1_0 l1_1) = some r := by rw [if_neg (show ¬ (false = true) by decide)] at H; exact H
        clear H
        have H := H1
        clear H1
        have H' := iC.mk H
        clear H
        go_wp2
        repeat (go_quiet (fail); try go_wp2)
        go_loopg [5] kj2 (fun kq v5 w' => ∃ (x5_2 : Int), v5 = .int .i64 x5_2 ∧ iC (stratumref07_SameMap.l0 kq x5_2 a0_0 l0_1 a1_0 l1_1 = some r) ∧ iC (kq ≤ kj2) ∧ iC (w'.heap[gb435]? = some (.cells #[.int .u32 a0_0, (.slice A0_1 l0_1.length c0_1)] 42 (0, 0))) ∧ iC (w'.heap[gb436]? = some (.cells #[.int .u32 a1_0, (.slice A1_1 l1_1.length c1_1)] 42 (0, 0))) ∧ iC (Below w.heap.size w w'))
        case atStart => exact ⟨(0), (by first | rfl | (simp; done) | (simp [*]; done)), H', ⟨Nat.le_refl _⟩, ⟨bk_ BK435.out⟩, ⟨bk_ BK436.out⟩, ⟨by repeat (first | (with_reducible first | exact HB.out | apply iF | apply iD | apply iG | refine iE ?_ GE435.out | refine iE ?_ GE436.out) | exact HB.out)⟩⟩
        case round =>
          clear H'
          try clear c1
          try clear p2
          try clear c3
          try clear c6
          try clear c6b0
          try clear c6b1
          try clear c7
          try clear c10
          try clear c13
          try clear hcz11_0
          try clear hcz11_1
          try clear hcz12_0
          try clear hcz12_1
          try clear hcz8_0
          try clear hcz8_1
          try clear hcz9_0
          try clear hcz9_1
          try clear hfz11_0
          try clear hfz11_1
          try clear hfz12_0
          try clear hfz12_1
          try clear hfz8_0
          try clear hfz8_1
          try clear hfz9_0
          try clear hfz9_1
          try clear p2
          obtain ⟨x5_2, rfl, HA, HK2, BK435, BK436, HB⟩ := hrel
          cases gk with
          | zero => exact absurd HA.out (by simp [stratumref07_SameMap.l0])
          | succ k2 =>
            have H := HA.out
            clear HA
            simp only [stratumref07_SameMap.l0] at H
            by_cases c14 : x5_2 < (l0_1.length : Int)
            · rw [if_pos c14] at H
              have c14b0 : decide (x5_2 < (l0_1.length : Int)) = true := decide_eq_true c14
              clear c14
              by_cases c15 : 0 ≤ x5_2
              · rw [if_pos c15] at H
                have c15b0 : decide (0 ≤ x5_2) = true := decide_eq_true c15
                clear c15
                by_cases c16 : x5_2 < (l1_1.length : Int)
                · rw [if_pos c16] at H
                  have c16b0 : decide (x5_2 < (l1_1.length : Int)) = true := decide_eq_true c16
                  clear c16
                  by_cases c17 : (!(((iT l0_1 x5_2).f0) == ((iT l1_1 x5_2).f0)) || (!(((iT l0_1 x5_2).f1) == ((iT l1_1 x5_2).f1)))) = true
                  · rw [if_pos c17] at H
                    have c17b0 : (!(((iT l0_1 x5_2).f0) == ((iT l1_1 x5_2).f0)) || (!(((iT l0_1 x5_2).f1) == ((iT l1_1 x5_2).f1)))) = true := c17
                    clear c17
                    obtain rfl := Option.some.inj H
                    have hnb18 := NB435_436.out
                    have hnc18 := NB436_435.out
                    have hcz19_0 : wr.cell? ⟨gb435, 0, none⟩ = some (.int .u32 a0_0) := (iI BK435.out 0).trans rfl
                    have hcz19_1 : wr.cell? ⟨gb435, 1, none⟩ = some (.slice A0_1 l0_1.length c0_1) := (iI BK435.out 1).trans rfl
                    have hfz19_0 := iH BK435.out 0
                    have hfz19_1 := iH BK435.out 1
                    have p437 : 0 ≤ (x5_2 : Int) := of_decide_eq_true asm_
                    have q437 : x5_2 < (l0_1.length : Int) := of_decide_eq_true asm_
                    obtain ⟨ad437, e437, hx437_0, hx437_1⟩ := jK HR0_1.out x5_2 p437 q437
                    cases e437
                    replace hx437_0 := (HB.out.cell (World.block_lt_of_cell? w _ hx437_0)).trans hx437_0
                    replace hx437_1 := (HB.out.cell (World.block_lt_of_cell? w _ hx437_1)).trans hx437_1
                    replace p437 := eq_true p437
                    replace q437 := eq_true q437
                    have hcz20_0 : wr.cell? ⟨gb436, 0, none⟩ = some (.int .u32 a1_0) := (iI BK436.out 0).trans rfl
                    have hcz20_1 : wr.cell? ⟨gb436, 1, none⟩ = some (.slice A1_1 l1_1.length c1_1) := (iI BK436.out 1).trans rfl
                    have hfz20_0 := iH BK436.out 0
                    have hfz20_1 := iH BK436.out 1
                    have p438 : 0 ≤ (x5_2 : Int) := of_decide_eq_true asm_
                    have q438 : x5_2 < (l1_1.length : Int) := of_decide_eq_true asm_
                    obtain ⟨ad438, e438, hx438_0, hx438_1⟩ := jK HR1_1.out x5_2 p438 q438
                    cases e438
                    replace hx438_0 := (HB.out.cell (World.block_lt_of_cell? w _ hx438_0)).trans hx438_0
                    replace hx438_1 := (HB.out.cell (World.block_lt_of_cell? w _ hx438_1)).trans hx438_1
                    replace p438 := eq_true p438
                    replace q438 := eq_true q438
                    go_wp2
                    repeat (go_quiet (fail); try go_wp2)
                    go_ret
                    exact ⟨by first | rfl | (simp [iR, iQ] <;> rfl) | (simp [*, iR, iQ] <;> rfl), by repeat (first | (with_reducible first | exact HB.out | apply iF | apply iD | apply iG | refine iE ?_ GE435.out | refine iE ?_ GE436.out) | exact HB.out)⟩
                  · rw [if_neg c17] at H
                    have c17b0 : (!(((iT l0_1 x5_2).f0) == ((iT l1_1 x5_2).f0)) || (!(((iT l0_1 x5_2).f1) == ((iT l1_1 x5_2).f1)))) = false := by simpa using c17
                    clear c17
                    have H' := iC.mk H
                    clear H
                    have hnb21 := NB435_436.out
                    have hnc21 := NB436_435.out
                    have hcz22_0 : wr.cell? ⟨gb435, 0, none⟩ = some (.int .u32 a0_0) := (iI BK435.out 0).trans rfl
                    have hcz22_1 : wr.cell? ⟨gb435, 1, none⟩ = some (.slice A0_1 l0_1.length c0_1) := (iI BK435.out 1).trans rfl
                    have hfz22_0 := iH BK435.out 0
                    have hfz22_1 := iH BK435.out 1
                    have p437 : 0 ≤ (x5_2 : Int) := of_decide_eq_true asm_
                    have q437 : x5_2 < (l0_1.length : Int) := of_decide_eq_true asm_
                    obtain ⟨ad437, e437, hx437_0, hx437_1⟩ := jK HR0_1.out x5_2 p437 q437
                    cases e437
                    replace hx437_0 := (HB.out.cell (World.block_lt_of_cell? w _ hx437_0)).trans hx437_0
                    replace hx437_1 := (HB.out.cell (World.block_lt_of_cell? w _ hx437_1)).trans hx437_1
                    replace p437 := eq_true p437
                    replace q437 := eq_true q437
                    have hcz23_0 : wr.cell? ⟨gb436, 0, none⟩ = some (.int .u32 a1_0) := (iI BK436.out 0).trans rfl
                    have hcz23_1 : wr.cell? ⟨gb436, 1, none⟩ = some (.slice A1_1 l1_1.length c1_1) := (iI BK436.out 1).trans rfl
                    have hfz23_0 := iH BK436.out 0
                    have hfz23_1 := iH BK436.out 1
                    have p438 : 0 ≤ (x5_2 : Int) := of_decide_eq_true asm_
                    have q438 : x5_2 < (l1_1.length : Int) := of_decide_eq_true asm_
                    obtain ⟨ad438, e438, hx438_0, hx438_1⟩ := jK HR1_1.out x5_2 p438 q438
                    cases e438
                    replace hx438_0 := (HB.out.cell (World.block_lt_of_cell? w _ hx438_0)).trans hx438_0
                    replace hx438_1 := (HB.out.cell (World.block_lt_of_cell? w _ hx438_1)).trans hx438_1
                    replace p438 := eq_true p438
                    replace q438 := eq_true q438
                    go_wp2
                    repeat (go_quiet (fail); try go_wp2)
                    go_roundg k2
                    case measure => have := HJ2.out; have := HK2.out; omega
                    case rel => exact ⟨(wrap64 (x5_2 + 1)), (by first | rfl | (simp; done) | (simp [*]; done)), H', ⟨by have := HJ2.out; have := HK2.out; omega⟩, ⟨bk_ BK435.out⟩, ⟨bk_ BK436.out⟩, ⟨by repeat (first | (with_reducible first | exact HB.out | apply iF | apply iD | apply iG | refine iE ?_ GE435.out | refine iE ?_ GE436.out) | exact HB.out)⟩⟩
                · rw [if_neg c16] at H
                  exact absurd H (by simp)
              · rw [if_neg c15] at H
                exact absurd H (by simp)
            · rw [if_neg c14] at H
              have c14b0 : decide (x5_2 < (l0_1.length : Int)) = false := decide_eq_false c14
              clear c14
              obtain rfl := Option.some.inj H
              have hnb24 := NB435_436.out
              have hnc24 := NB436_435.out
              have hcz25_0 : wr.cell? ⟨gb435, 0, none⟩ = some (.int .u32 a0_0) := (iI BK435.out 0).trans rfl
              have hcz25_1 : wr.cell? ⟨gb435, 1, none⟩ = some (.slice A0_1 l0_1.length c0_1) := (iI BK435.out 1).trans rfl
              have hfz25_0 := iH BK435.out 0
              have hfz25_1 := iH BK435.out 1
              go_wp2
              repeat (go_quiet (fail); try go_wp2)
              go_ret
              exact ⟨by first | rfl | (simp [iR, iQ] <;> rfl) | (simp [*, iR, iQ] <;> rfl), by repeat (first | (with_reducible first | exact HB.out | apply iF | apply iD | apply iG | refine iE ?_ GE435.out | refine iE ?_ GE436.out) | exact HB.out)⟩
end Go.Proofs.Ytbpdejbkfpkphaa.K
end

section
namespace Go.Proofs.Ytbpdejbkfpkphaa.K
open Go Go.RowKit Go.Proofs.YtbpdejbkfpkphaaW.PrintWords Go.Proofs.YtbpdejbkfpkphaaW.PrintLast Go.Proofs.YtbpdejbkfpkphaaW.PrintMore
abbrev TCu := S55
/-- A choice is of its kind. -/
def CutOk (x : TCu) : Prop := (0 ≤ x.f0 ∧ x.f0 < 65536) ∧ (0 ≤ x.f1 ∧ x.f1 < 65536) ∧ (0 ≤ x.f2 ∧ x.f2 < 256)
theorem nC (x : Int) (h0 : 0 ≤ x) (h1 : x < 9223372036854775808) : wrap64 x = x := by unfold wrap64; omega
theorem vC (x n : Int) (h0 : 0 ≤ x) (h1 : 0 < n) : 0 ≤ Int.tmod x n ∧ Int.tmod x n < n := by
  rw [Int.tmod_eq_emod_of_nonneg h0]
  exact ⟨Int.emod_nonneg _ (by omega), Int.emod_lt_of_pos _ h1⟩
/-- A range of a map. -/
structure Rng (n fr tt : Int) : Prop where
  lo : 0 ≤ fr
  lt : fr < tt
  hi : tt ≤ n
theorem yK (n x y : Int) (hn : 1 ≤ n) (hn2 : n ≤ 10000) (hx : 0 ≤ x ∧ x < 65536) (hy : 0 ≤ y ∧ y < 65536) :
    wrap64 (n - Int.tmod (wrap64 x) n) ≠ 0 ∧ Rng n (Int.tmod (wrap64 x) n) (wrap64 (wrap64 (Int.tmod (wrap64 x) n + 1) + Int.tmod (wrap64 y) (wrap64 (n - Int.tmod (wrap64 x) n)))) := by
  rw [nC x hx.1 (by omega), nC y hy.1 (by omega)]
  have h1 := vC x n hx.1 (by omega)
  generalize Int.tmod x n = a at h1
  rw [nC (n - a) (by omega) (by omega), nC (a + 1) (by omega) (by omega)]
  have h2 := vC y (n - a) hy.1 (by omega)
  generalize Int.tmod y (n - a) = b at h2
  rw [nC (a + 1 + b) (by omega) (by omega)]
  exact ⟨by omega, ⟨by omega, by omega, by omega⟩⟩
theorem xK (l : List TCu) (i : Nat) (h : i < l.length) : jF l (i : Int) = l[i] := by
  show l.getD (i : Int).toNat _ = _
  rw [Int.toNat_natCast, List.getD_eq_getElem?_getD, List.getElem?_eq_getElem h]; rfl
theorem xE (n : Nat) (nodes : Int) (hn : 1 ≤ n) (hn2 : n ≤ 10000) (hm : 1 ≤ nodes) (hm2 : nodes ≤ 6) (cs : List TCu) (hcs : ∀ x ∈ cs, CutOk x) :
    ∀ (j i k : Nat) (a : Int) (L : List TSp), i + j = 30 → 20200 + 2 * j < k → 0 ≤ a → a < 4294967296 → Snd L n nodes →
      ∃ a' L', stratumlaw12_Of.l0 k n nodes cs i a L = some (a', L') ∧ (0 ≤ a' ∧ a' < 4294967296) ∧ Snd L' n nodes
  | j, i, 0, _, _, _, h, _, _, _ => by omega
  | j, i, 1, _, _, _, h, _, _, _ => by omega
  | 0, i, k + 2, a, L, hi, hk, h0, h1, hL => by
    refine ⟨a, L, ?_, ⟨h0, h1⟩, hL⟩
    have hj : ∀ b, b = false → stratumlaw12_Of.j1 (k + 1) n nodes cs i b a L = some (a, L) := fun b hb => by rw [stratumlaw12_Of.j1, hb, if_neg (by decide)]
    rw [stratumlaw12_Of.l0]
    split
    · exact hj _ (decide_eq_false (by omega))
    · exact hj _ rfl
  | j + 1, i, k + 2, a, L, hi, hk, h0, h1, hL => by
    rw [stratumlaw12_Of.l0]
    by_cases hlt : i < cs.length
    · have hx := hcs cs[i] (List.getElem_mem hlt)
      have hw : wrap64 ((i : Int) + 1) = ((i + 1 : Nat) : Int) := by unfold wrap64; omega
      obtain ⟨hr0, hr⟩ := yK n cs[i].f0 cs[i].f1 (by omega) (by omega) hx.1 hx.2.1
      have ht := vC (wrap64 cs[i].f2) nodes (by rw [nC _ hx.2.2.1 (by have := hx.2.2.2; omega)]; exact hx.2.2.1) (by omega)
      have hmn : mn nodes 6 = nodes := by unfold mn; split <;> omega
      rw [if_pos (by omega), stratumlaw12_Of.j1, decide_eq_true (by omega : (i : Int) < 30), if_pos rfl, if_pos (by omega), if_pos (by omega), if_neg (by omega), xK cs i hlt, if_neg hr0, if_neg (by omega), uH k a L n nodes _ _ _ (by have := hL.len; omega) (by have := hL.len; omega), hw]
      simp only [Option.bind_some]
      rcases pY a hL hr.lo hr.lt hr.hi ht.1 (by rw [hmn]; exact ht.2) (by omega) with ⟨he, _⟩ | ⟨_, ⟨he, _⟩ | ⟨he, hs⟩⟩
      · rw [he]
        rw [if_neg (by decide)]
        exact xE n nodes hn hn2 hm hm2 cs hcs j (i + 1) k a L (by omega) (by omega) h0 h1 hL
      · rw [he]
        rw [if_neg (by decide)]
        exact xE n nodes hn hn2 hm hm2 cs hcs j (i + 1) k a L (by omega) (by omega) h0 h1 hL
      · rw [he]
        rw [if_pos rfl]
        exact xE n nodes hn hn2 hm hm2 cs hcs j (i + 1) k _ _ (by omega) (by omega) (Int.emod_nonneg _ (by decide)) (Int.emod_lt_of_pos _ (by decide)) hs
    · rw [if_neg (by omega), stratumlaw12_Of.j1, if_neg (by decide)]
      exact ⟨a, L, rfl, ⟨h0, h1⟩, hL⟩
theorem I5 (n : Nat) (nodes : Int) (hn : 1 ≤ n) (hn2 : n ≤ 10000) (hm : 1 ≤ nodes) (hm2 : nodes ≤ 6) (cs : List TCu) (hcs : ∀ x ∈ cs, CutOk x) (k : Nat) (hk : 20300 < k) :
    ∃ a L, stratumlaw12_Of.f k n nodes cs = some (a, L) ∧ (0 ≤ a ∧ a < 4294967296) ∧ Snd L n nodes :=
  xE n nodes hn hn2 hm hm2 cs hcs 30 0 k 1 [⟨0, 0⟩] (by omega) (by omega) (by decide) (by decide) (yE n nodes (by omega) hm)
end Go.Proofs.Ytbpdejbkfpkphaa.K
end
