/- Parts of the proof, one behind the other: K6, SpH0, K42, K43, K44, K45. -/
import Derived.Test.YtjppookmjdaplaaQSpansParts5
set_option linter.unusedVariables false
set_option linter.unusedSimpArgs false
section
namespace Go.Proofs.Ytjppookmjdaplaa.K
open Go.RowKit Go.Proofs.YtjppookmjdaplaaW.PrintWords Go.Proofs.YtjppookmjdaplaaW.PrintLast Go.Proofs.YtjppookmjdaplaaW.PrintMore
attribute [local go_sem] jQ jP jX jW
mutual
def stratumlaw12_Of.l0 : Nat → Int → Int → List (S91) → Int → Int → List (S96) → Option (Int × (List (S96)))
  | 0, _, _, _, _, _, _ => none
  | k + 1, x0, x1, x2, x8, x137000, x137001 => if x8 < (x2.length : Int) then (stratumlaw12_Of.j1 k x0 x1 x2 x8 (decide (x8 < 30)) x137000 x137001) else (stratumlaw12_Of.j1 k x0 x1 x2 x8 false x137000 x137001)
def stratumlaw12_Of.j1 : Nat → Int → Int → List (S91) → Int → Bool → Int → List (S96) → Option (Int × (List (S96)))
  | 0, _, _, _, _, _, _, _ => none
  | k + 1, x0, x1, x2, x8, x21, x137000, x137001 => if x21 = true then (if 0 ≤ x8 then (if x8 < (x2.length : Int) then (if x0 = 0 then (none) else (if (wrap64 (x0 - (Int.tmod (wrap64 ((jG x2 x8).f0)) x0))) = 0 then (none) else (if x1 = 0 then (none) else ((stratumref12_Split.f k x137000 x137001 x0 x1 (Int.tmod (wrap64 ((jG x2 x8).f0)) x0) (wrap64 ((wrap64 ((Int.tmod (wrap64 ((jG x2 x8).f0)) x0) + 1)) + (Int.tmod (wrap64 ((jG x2 x8).f1)) (wrap64 (x0 - (Int.tmod (wrap64 ((jG x2 x8).f0)) x0)))))) (Int.tmod (wrap64 ((jG x2 x8).f2)) x1)).bind fun bt140 => (if bt140.2.2 = 0 then (stratumlaw12_Of.l0 k x0 x1 x2 (wrap64 (x8 + 1)) bt140.1 bt140.2.1) else (stratumlaw12_Of.l0 k x0 x1 x2 (wrap64 (x8 + 1)) x137000 x137001)))))) else (none)) else (none)) else (some (x137000, x137001))
end
def stratumlaw12_Of.f (k : Nat) (a0 : Int) (a1 : Int) (l2 : List (S91)) : Option (Int × (List (S96))) := (stratumref12_New.f).bind fun bt132 => (stratumlaw12_Of.l0 k a0 a1 l2 0 bt132.1 bt132.2)
theorem stratumlaw12_Of.mono_l : ∀ k, (∀ y0 y1 y2 y3 y4 y5, LeO (stratumlaw12_Of.l0 k y0 y1 y2 y3 y4 y5) (stratumlaw12_Of.l0 (k + 1) y0 y1 y2 y3 y4 y5)) ∧ (∀ y0 y1 y2 y3 y4 y5 y6, LeO (stratumlaw12_Of.j1 k y0 y1 y2 y3 y4 y5 y6) (stratumlaw12_Of.j1 (k + 1) y0 y1 y2 y3 y4 y5 y6))
  | 0 => ⟨fun _ _ _ _ _ _ r h => by simp [stratumlaw12_Of.l0] at h, fun _ _ _ _ _ _ _ r h => by simp [stratumlaw12_Of.j1] at h⟩
  | k + 1 => by
    obtain ⟨ih0, ih1⟩ := stratumlaw12_Of.mono_l k
    refine ⟨?_, ?_⟩
    · intro y0 y1 y2 y3 y4 y5
      unfold stratumlaw12_Of.l0
      repeat' first
      | (with_reducible exact ih0 _ _ _ _ _ _)
      | (with_reducible exact ih1 _ _ _ _ _ _ _)
      | (with_reducible exact stratumref12_Split.mono _ _ _ _ _ _ _ _)
      | (with_reducible exact LeO.refl _)
      | (with_reducible exact LeO.none _)
      | (with_reducible refine LeO.ite ?_ ?_)
      | (with_reducible refine LeO.bind ?_ (fun _ => ?_))
      | exact ih0 _ _ _ _ _ _
      | exact ih1 _ _ _ _ _ _ _
      | exact stratumref12_Split.mono _ _ _ _ _ _ _ _
      | exact LeO.none _
      | refine LeO.ite ?_ ?_
      | refine LeO.bind ?_ (fun _ => ?_)
    · intro y0 y1 y2 y3 y4 y5 y6
      unfold stratumlaw12_Of.j1
      repeat' first
      | (with_reducible exact ih0 _ _ _ _ _ _)
      | (with_reducible exact ih1 _ _ _ _ _ _ _)
      | (with_reducible exact stratumref12_Split.mono _ _ _ _ _ _ _ _)
      | (with_reducible exact LeO.refl _)
      | (with_reducible exact LeO.none _)
      | (with_reducible refine LeO.ite ?_ ?_)
      | (with_reducible refine LeO.bind ?_ (fun _ => ?_))
      | exact ih0 _ _ _ _ _ _
      | exact ih1 _ _ _ _ _ _ _
      | exact stratumref12_Split.mono _ _ _ _ _ _ _ _
      | exact LeO.none _
      | refine LeO.ite ?_ ?_
      | refine LeO.bind ?_ (fun _ => ?_)
theorem stratumlaw12_Of.mono : ∀ a0 a1 a2 k, LeO (stratumlaw12_Of.f k a0 a1 a2) (stratumlaw12_Of.f (k + 1) a0 a1 a2) := by
  intro a0 a1 a2 k
  obtain ⟨ih0, ih1⟩ := stratumlaw12_Of.mono_l k
  unfold stratumlaw12_Of.f
  repeat' first
      | (with_reducible exact ih0 _ _ _ _ _ _)
      | (with_reducible exact ih1 _ _ _ _ _ _ _)
      | (with_reducible exact stratumref12_Split.mono _ _ _ _ _ _ _ _)
      | (with_reducible exact LeO.refl _)
      | (with_reducible exact LeO.none _)
      | (with_reducible refine LeO.ite ?_ ?_)
      | (with_reducible refine LeO.bind ?_ (fun _ => ?_))
      | exact ih0 _ _ _ _ _ _
      | exact ih1 _ _ _ _ _ _ _
      | exact stratumref12_Split.mono _ _ _ _ _ _ _ _
      | exact LeO.none _
      | refine LeO.ite ?_ ?_
      | refine LeO.bind ?_ (fun _ => ?_)
def stratumlaw12_Of.T7 : Bool × List (List Nat × List Nat) := (true, [([], []), ([], []), ([], []), ([], []), ([], []), ([], []), ([], []), ([5, 6], [5, 6]), ([7], [7]), ([8], [8]), ([9], [9]), ([], []), ([10, 11], [10, 11]), ([0, 1, 2, 3, 4, 12], [0, 1, 2, 3, 4, 12]), ([13], [13]), ([14], [14]), ([14], [14]), ([], []), ([17, 15, 13, 0, 1, 2, 3, 4, 5, 6, 7, 8, 9, 10, 11, 12, 13, 14, 15, 17], [15, 17]), ([16, 18, 0, 1, 2, 3, 4, 5, 6, 7, 8, 9, 10, 11, 12, 13, 14, 15, 16, 17, 18], [16])])
def stratumlaw12_Of.B7 : List Nat := [0, 0, 0, 0, 0, 0, 0, 96, 224, 480, 992, 0, 4064, 8191, 16383, 32767, 32767, 0, 196607, 524287]
theorem stratumlaw12_Of.tab7 : rtab .any (opsOf Try.f17 7) = stratumlaw12_Of.T7 := by kernel_rfl
theorem stratumlaw12_Of.bits7 : kX stratumlaw12_Of.T7.2 stratumlaw12_Of.B7 = true := by kernel_rfl
set_option maxHeartbeats 8000000 in
set_option maxRecDepth 100000 in
theorem stratumlaw12_Of.calls (k : Nat) (a0 : Int) (a1 : Int) (A2 : Option Addr) (c2 : Nat) (l2 : List (S91)) (r1 : Int) (r2 : List (S96)) (w : World) (hr2 : Kd.C k91 w A2 l2.length l2) (hc2 : l2.length ≤ c2) (h : stratumlaw12_Of.f k a0 a1 l2 = some (r1, r2)) :
    Calls Try.prog 17 #[.int .i64 a0, .int .i64 a1, .slice A2 l2.length c2] w fun e w' => ∃ v1_ : Value, e = .returned (.agg #[.int .u32 r1, v1_]) ∧ Kd.R k96 96 w' w.heap.size (fun _ => True) v1_ r2 ∧ Below w.heap.size w w' := by
  have hu42 := Try.underlying42
  have HR2 := iC.mk hr2
  have HC2 := iC.mk hc2
  clear hr2 hc2
  have HB := iC.mk (Below.refl w.heap.size w)
  have H : ((stratumref12_New.f).bind fun bt132 => (stratumlaw12_Of.l0 k a0 a1 l2 0 bt132.1 bt132.2)) = some (r1, r2) := h
  clear h
  replace H := Option.bind_eq_some_iff.mp H
  obtain ⟨⟨t132, t133⟩, A40, H⟩ := H
  replace H : (stratumlaw12_Of.l0 k a0 a1 l2 0 t132 t133) = some (r1, r2) := H
  have A4 := iC.mk A40
  clear A40
  have H' := iC.mk H
  clear H
  go_enter Try.func17, Try.ntmps17
  go_wp2_with (first | ((with_reducible refine jF (N := 6) rfl ?_); refine jD ?hg (N := 6) ?hd (cs := #[.int .u32 0, .slice none 0 0]) (t := 42) ?hr ?_; (case hd => rfl); (case hg => rfl); (case hr => first | (go_simp; done) | (go_simp; rfl)); intro gb131 hg w5 hbox hb; have n0_ := iC.mk (iM hb_ hb); have n1_ := iC.mk (hbox); have n2_ := iC.mk ((by rw [hg]; exact (iJ hb_) : w.heap.size ≤ gb131)); have n3_ := iC.mk ((by rw [hg]; exact (iJ hb_) : w.heap.size ≤ gb131)); clear HB; have HB := n0_; have BK131 := n1_; have GW131 := n2_; have GE131 := n3_; clear n0_ n1_ n2_ n3_; clear hb hbox hg) | ((with_reducible refine iZ (f := 45) rfl ?_); refine jJ (some 13) rfl rfl Try.func45 (by kernel_rfl) rfl #[] rfl (by (try simp only [List.map_toArray, List.map_cons, List.map_nil]); first | done | rfl | (simp only [List.length_drop, List.length_take]; rfl)) ?_; (with_reducible refine (stratumref12_New.calls  t132 t133 _ A4.out).mono ?_); rintro e w6 ⟨v134, rfl, ho0, hb⟩; refine ⟨_, rfl, ?_⟩; have n0_ := iC.mk (Kd.R_lower ho0 (iJ (by repeat (first | (with_reducible first | exact HB.out | apply iG | apply iD | apply iF | refine iE ?_ GE131.out) | exact HB.out)))); have n1_ := iC.mk (iP (g := gb131) (o := .cells #[.int .u32 0, .slice none 0 0] 42 (0, 0)) (bk_ BK131.out) hb); have n2_ := iC.mk (iM (by repeat (first | (with_reducible first | exact HB.out | apply iG | apply iD | apply iF | refine iE ?_ GE131.out) | exact HB.out)) hb); clear BK131; clear HB; have HO135 := n0_; have BK131 := n1_; have HB := n2_; clear n0_ n1_ n2_; (try clear hb); (try clear hb2); (try clear hk); (try clear hi); (try clear ho0)) | ((with_reducible refine jF (N := 7) rfl ?_); refine jD ?hg (N := 7) ?hd (cs := #[.int .u32 0, .slice none 0 0]) (t := 42) ?hr ?_; (case hd => rfl); (case hg => rfl); (case hr => first | (go_simp; done) | (go_simp; rfl)); intro gb136 hg w7 hbox hb; have n0_ := iC.mk (Kd.R_below (by (with_reducible repeat (first | apply Kd.R_alloc | apply Kd.R_drewN | apply Kd.R_drew)); exact HO135.out) hb); have n1_ := iC.mk (iP (g := gb131) (o := .cells #[.int .u32 0, .slice none 0 0] 42 (0, 0)) (bk_ BK131.out) hb); have n2_ := iC.mk (iM (by repeat (first | (with_reducible first | exact HB.out | apply iG | apply iD | apply iF | refine iE ?_ GE131.out) | exact HB.out)) hb); have n3_ := iC.mk (hbox); have n4_ := iC.mk ((by rw [hg]; exact (iJ (by repeat (first | (with_reducible first | exact HB.out | apply iG | apply iD | apply iF | refine iE ?_ GE131.out) | exact HB.out))) : w.heap.size ≤ gb136)); have n5_ := iC.mk ((by rw [hg]; exact (iJ (by repeat (first | (with_reducible first | exact HB.out | apply iG | apply iD | apply iF | refine iE ?_ GE131.out) | exact HB.out))) : w.heap.size ≤ gb136)); have n6_ := iC.mk ((by rw [hg]; exact Nat.ne_of_lt (jE (g := gb131) (o := .cells #[.int .u32 0, .slice none 0 0] 42 (0, 0)) (bk_ BK131.out)) : gb131 ≠ gb136)); have n7_ := iC.mk ((by rw [hg]; exact Nat.ne_of_gt (jE (g := gb131) (o := .cells #[.int .u32 0, .slice none 0 0] 42 (0, 0)) (bk_ BK131.out)) : gb136 ≠ gb131)); clear HO135; clear BK131; clear HB; have HO135 := n0_; have BK131 := n1_; have HB := n2_; have BK136 := n3_; have GW136 := n4_; have GE136 := n5_; have NB131_136 := n6_; have NB136_131 := n7_; clear n0_ n1_ n2_ n3_ n4_ n5_ n6_ n7_; clear hb hbox hg; have hnb8 := NB136_131.out; have hnc8 := NB131_136.out; have hcz9_0 : w7.cell? ⟨gb136, 0, none⟩ = some (.int .u32 0) := (iH BK136.out 0).trans rfl; have hcz9_1 : w7.cell? ⟨gb136, 1, none⟩ = some (.slice none 0 0) := (iH BK136.out 1).trans rfl; have hfz9_0 := iI BK136.out 0; have hfz9_1 := iI BK136.out 1; obtain ⟨Ao10, co10, eo10⟩ := Kd.R_slice HO135.out; subst eo10))
  go_loopg [8] k (fun kq v8 w' => ∃ (x8_1 : Int) (x137000_1 : Int) (x137001_1 : List (S96)) (u137001 : Value), v8 = .int .i64 x8_1 ∧ iC (stratumlaw12_Of.l0 kq a0 a1 l2 x8_1 x137000_1 x137001_1 = some (r1, r2)) ∧ iC (kq ≤ k) ∧ iC (Kd.R k96 96 w' w.heap.size (fun _ => True) u137001 x137001_1) ∧ iC (w'.heap[gb131]? = some (.cells #[.int .u32 0, (.slice none 0 0)] 42 (0, 0))) ∧ iC (w'.heap[gb136]? = some (.cells #[.int .u32 x137000_1, u137001] 42 (0, 0))) ∧ iC (Below w.heap.size w w'))
  case atStart => exact ⟨(0), (t132), (t133), (.slice Ao10 t133.length co10), (by first | rfl | (simp; done) | (simp [*]; done)), H', ⟨Nat.le_refl _⟩, ⟨by (with_reducible repeat (first | apply Kd.R_alloc | apply Kd.R_drewN | apply Kd.R_drew)); exact Kd.R_mono (Kd.R_far (p := ⟨gb136, 1, none⟩) (Kd.R_far (p := ⟨gb136, 0, none⟩) (Kd.R_types HO135.out BK136.out (by decide)) (fun _ hk => hk.2) (.int .u32 t132)) (fun _ hk => hk.2) (.slice Ao10 t133.length co10)) (fun _ hk => trivial)⟩, ⟨by (with_reducible repeat (first | refine iL ?_ _ | refine iO ?_ | refine iK ?_ _)); refine jI ?_ NB131_136.out _; (with_reducible repeat (first | refine iL ?_ _ | refine iO ?_ | refine iK ?_ _)); refine jI ?_ NB131_136.out _; (with_reducible repeat (first | refine iL ?_ _ | refine iO ?_ | refine iK ?_ _)); exact BK131.out⟩, ⟨by (with_reducible repeat (first | refine iL ?_ _ | refine iO ?_ | refine iK ?_ _)); refine jC (cs := #[.int .u32 t132, .slice none 0 0]) ?_ 1 _ rfl; (with_reducible repeat (first | refine iL ?_ _ | refine iO ?_ | refine iK ?_ _)); refine jC (cs := #[.int .u32 0, .slice none 0 0]) ?_ 0 _ rfl; (with_reducible repeat (first | refine iL ?_ _ | refine iO ?_ | refine iK ?_ _)); exact BK136.out⟩, ⟨by repeat (first | (with_reducible first | exact HB.out | apply iG | apply iD | apply iF | refine iE ?_ GE131.out | refine iE ?_ GE136.out) | exact HB.out)⟩⟩
  case round =>
    clear H'
    try clear c1
    try clear c2
    try clear p2
    try clear c4
    try clear c8
    try clear hcz9_0
    try clear hcz9_1
    try clear hfz9_0
    try clear hfz9_1
    obtain ⟨x8_1, x137000_1, x137001_1, u137001, rfl, HA, HK1, HO_137001, BK131, BK136, HB⟩ := hrel
    cases gk with
    | zero => exact absurd HA.out (by simp [stratumlaw12_Of.l0])
    | succ k1 =>
      have H := HA.out
      clear HA
      simp only [stratumlaw12_Of.l0] at H
      have HC11 := iC.mk H
      clear H
      go_upto_region 3 with (fail)
      go_cut [21] (fun v21 wc => ∃ (kq : Nat) (x21_10 : Bool), v21 = .bool x21_10 ∧ iC (stratumlaw12_Of.j1 kq a0 a1 l2 x8_1 x21_10 x137000_1 x137001_1 = some (r1, r2)) ∧ iC (kq ≤ k1) ∧ iC (Kd.R k96 96 wc w.heap.size (fun _ => True) u137001 x137001_1) ∧ iC (wc.heap[gb131]? = some (.cells #[.int .u32 0, (.slice none 0 0)] 42 (0, 0))) ∧ iC (wc.heap[gb136]? = some (.cells #[.int .u32 x137000_1, u137001] 42 (0, 0))) ∧ iC (Below w.heap.size w wc))
      case first =>
        have H := HC11.out
        clear HC11
        by_cases c12 : x8_1 < (l2.length : Int)
        · rw [if_pos c12] at H
          have c12b0 : decide (x8_1 < (l2.length : Int)) = true := decide_eq_true c12
          clear c12
          (first | rw [c12b0] | (simp only [iR, iT]; rw [c12b0]) | skip)
          have H' := iC.mk H
          clear H
          go_wp2
          go_meet
          case rel => exact ⟨_, (decide (x8_1 < 30)), (by first | rfl | (simp; done) | (simp [*]; done)), H', ⟨by have := HK1.out; first | omega | exact Nat.le_refl _⟩, ⟨by (with_reducible repeat (first | apply Kd.R_alloc | apply Kd.R_drewN | apply Kd.R_drew)); exact HO_137001.out⟩, ⟨bk_ BK131.out⟩, ⟨bk_ BK136.out⟩, ⟨by repeat (first | (with_reducible first | exact HB.out | apply iG | apply iD | apply iF | refine iE ?_ GE131.out | refine iE ?_ GE136.out) | exact HB.out)⟩⟩
        · rw [if_neg c12] at H
          have c12b0 : decide (x8_1 < (l2.length : Int)) = false := decide_eq_false c12
          clear c12
          (first | rw [c12b0] | (simp only [iR, iT]; rw [c12b0]) | skip)
          have H' := iC.mk H
          clear H
          go_wp2
          go_meet
          case rel => exact ⟨_, (false), (by first | rfl | (simp; done) | (simp [*]; done)), H', ⟨by have := HK1.out; first | omega | exact Nat.le_refl _⟩, ⟨by (with_reducible repeat (first | apply Kd.R_alloc | apply Kd.R_drewN | apply Kd.R_drew)); exact HO_137001.out⟩, ⟨bk_ BK131.out⟩, ⟨bk_ BK136.out⟩, ⟨by repeat (first | (with_reducible first | exact HB.out | apply iG | apply iD | apply iF | refine iE ?_ GE131.out | refine iE ?_ GE136.out) | exact HB.out)⟩⟩
      case rest =>
        clear HC11
        try clear c1
        try clear c2
        try clear p2
        try clear c4
        try clear c8
        try clear c12
        try clear c12b0
        try clear hcz9_0
        try clear hcz9_1
        try clear hfz9_0
        try clear hfz9_1
        try clear p2
        obtain ⟨kq, x21_10, rfl, HA, HJ10, HO_137001, BK131, BK136, HB⟩ := hcut
        cases kq with
        | zero => exact absurd HA.out (by simp [stratumlaw12_Of.j1])
        | succ kj10 =>
          have H := HA.out
          clear HA
          simp only [stratumlaw12_Of.j1] at H
          by_cases c13 : x21_10 = true
          · subst c13
            have H1 : (if 0 ≤ x8_1 then (if x8_1 < (l2.length : Int) then (if a0 = 0 then (none) else (if (wrap64 (a0 - (Int.tmod (wrap64 ((jG l2 x8_1).f0)) a0))) = 0 then (none) else (if a1 = 0 then (none) else ((stratumref12_Split.f kj10 x137000_1 x137001_1 a0 a1 (Int.tmod (wrap64 ((jG l2 x8_1).f0)) a0) (wrap64 ((wrap64 ((Int.tmod (wrap64 ((jG l2 x8_1).f0)) a0) + 1)) + (Int.tmod (wrap64 ((jG l2 x8_1).f1)) (wrap64 (a0 - (Int.tmod (wrap64 ((jG l2 x8_1).f0)) a0)))))) (Int.tmod (wrap64 ((jG l2 x8_1).f2)) a1)).bind fun bt140 => (if bt140.2.2 = 0 then (stratumlaw12_Of.l0 kj10 a0 a1 l2 (wrap64 (x8_1 + 1)) bt140.1 bt140.2.1) else (stratumlaw12_Of.l0 kj10 a0 a1 l2 (wrap64 (x8_1 + 1)) x137000_1 x137001_1)))))) else (none)) else (none)) = some (r1, r2) := by rw [if_pos rfl] at H; exact H
            clear H
            have H := H1
            clear H1
            by_cases c14 : 0 ≤ x8_1
            · rw [if_pos c14] at H
              have c14b0 : decide (0 ≤ x8_1) = true := decide_eq_true c14
              clear c14
              by_cases c15 : x8_1 < (l2.length : Int)
              · rw [if_pos c15] at H
                have c15b0 : decide (x8_1 < (l2.length : Int)) = true := decide_eq_true c15
                clear c15
                by_cases c16 : a0 = 0
                · rw [if_pos c16] at H
                  exact absurd H (by simp)
                · rw [if_neg c16] at H
                  have c16b0 : (a0 == 0) = false := beq_eq_false_iff_ne.mpr c16
                  have c16b1 : (a0 != 0) = true := bne_iff_ne.mpr c16
                  by_cases c17 : (wrap64 (a0 - (Int.tmod (wrap64 ((jG l2 x8_1).f0)) a0))) = 0
                  · rw [if_pos c17] at H
                    exact absurd H (by simp)
                  · rw [if_neg c17] at H
                    have c17b0 : ((wrap64 (a0 - (Int.tmod (wrap64 ((jG l2 x8_1).f0)) a0))) == 0) = false := beq_eq_false_iff_ne.mpr c17
                    have c17b1 : ((wrap64 (a0 - (Int.tmod (wrap64 ((jG l2 x8_1).f0)) a0))) != 0) = true := bne_iff_ne.mpr c17
                    by_cases c18 : a1 = 0
                    · rw [if_pos c18] at H
                      exact absurd H (by simp)
                    · rw [if_neg c18] at H
                      have c18b0 : (a1 == 0) = false := beq_eq_false_iff_ne.mpr c18
                      have c18b1 : (a1 != 0) = true := bne_iff_ne.mpr c18
                      replace H := Option.bind_eq_some_iff.mp H
                      obtain ⟨⟨t140, t141, t144⟩, A190, H⟩ := H
                      replace H : (if t144 = 0 then (stratumlaw12_Of.l0 kj10 a0 a1 l2 (wrap64 (x8_1 + 1)) t140 t141) else (stratumlaw12_Of.l0 kj10 a0 a1 l2 (wrap64 (x8_1 + 1)) x137000_1 x137001_1)) = some (r1, r2) := H
                      have A19 := iC.mk A190
                      clear A190
                      by_cases c20 : t144 = 0
                      · rw [if_pos c20] at H
                        have c20b0 : (t144 == 0) = true := beq_iff_eq.mpr c20
                        have c20b1 : (t144 != 0) = false := bne_eq_false_iff_eq.mpr c20
                        clear c20
                        have H' := iC.mk H
                        clear H
                        have p137 : 0 ≤ (x8_1 : Int) := of_decide_eq_true asm_
                        have q137 : x8_1 < (l2.length : Int) := of_decide_eq_true asm_
                        obtain ⟨ad137, e137, hx137_0, hx137_1, hx137_2⟩ := o6 HR2.out x8_1 p137 q137
                        cases e137
                        replace hx137_0 := (HB.out.cell (World.block_lt_of_cell? w _ hx137_0)).trans hx137_0
                        replace hx137_1 := (HB.out.cell (World.block_lt_of_cell? w _ hx137_1)).trans hx137_1
                        replace hx137_2 := (HB.out.cell (World.block_lt_of_cell? w _ hx137_2)).trans hx137_2
                        replace p137 := eq_true p137
                        replace q137 := eq_true q137
                        have p138 : 0 ≤ (x8_1 : Int) := of_decide_eq_true asm_
                        have q138 : x8_1 < (l2.length : Int) := of_decide_eq_true asm_
                        obtain ⟨ad138, e138, hx138_0, hx138_1, hx138_2⟩ := o6 HR2.out x8_1 p138 q138
                        obtain rfl : ad137 = ad138 := (by injection e138)
                        replace hx138_0 := (HB.out.cell (World.block_lt_of_cell? w _ hx138_0)).trans hx138_0
                        replace hx138_1 := (HB.out.cell (World.block_lt_of_cell? w _ hx138_1)).trans hx138_1
                        replace hx138_2 := (HB.out.cell (World.block_lt_of_cell? w _ hx138_2)).trans hx138_2
                        replace p138 := eq_true p138
                        replace q138 := eq_true q138
                        obtain ⟨Ao21, co21, eo21⟩ := Kd.R_slice HO_137001.out
                        subst eo21
                        try go_wp2
                        have n0_ := iC.mk (Kd.R_drew HO_137001.out)
                        have n1_ := iC.mk (iO BK131.out)
                        have n2_ := iC.mk (iO BK136.out)
                        have n3_ := iC.mk (iF HB.out)
                        clear HO_137001
                        clear BK131
                        clear BK136
                        clear HB
                        have HO_137001 := n0_
                        have BK131 := n1_
                        have BK136 := n2_
                        have HB := n3_
                        clear n0_ n1_ n2_ n3_
                        have p139 : 0 ≤ (x8_1 : Int) := of_decide_eq_true asm_
                        have q139 : x8_1 < (l2.length : Int) := of_decide_eq_true asm_
                        obtain ⟨ad139, e139, hx139_0, hx139_1, hx139_2⟩ := o6 HR2.out x8_1 p139 q139
                        have hw139_2 := hx139_2
                        have hw139_1 := hx139_1
                        have hw139_0 := hx139_0
                        obtain rfl : ad137 = ad139 := (by injection e139)
                        replace hx139_0 := (HB.out.cell (World.block_lt_of_cell? w _ hx139_0)).trans hx139_0
                        replace hx139_1 := (HB.out.cell (World.block_lt_of_cell? w _ hx139_1)).trans hx139_1
                        replace hx139_2 := (HB.out.cell (World.block_lt_of_cell? w _ hx139_2)).trans hx139_2
                        replace p139 := eq_true p139
                        replace q139 := eq_true q139
                        refine kP (n := 20) (S := fun w' => w'.cell? ⟨gb136, 0, none⟩ = some (.int .u32 x137000_1) ∧ w'.cell? ⟨gb136, 1, none⟩ = some (.slice Ao21 x137001_1.length co21) ∧ w'.cell? (ad137.add ((x8_1).toNat * 3)) = some (.int .u16 ((jG l2 x8_1).f0)) ∧ w'.cell? ⟨(ad137.add ((x8_1).toNat * 3)).block, (ad137.add ((x8_1).toNat * 3)).off + 1, none⟩ = some (.int .u16 ((jG l2 x8_1).f1)) ∧ w'.cell? ⟨(ad137.add ((x8_1).toNat * 3)).block, (ad137.add ((x8_1).toNat * 3)).off + 2, none⟩ = some (.int .u8 ((jG l2 x8_1).f2))) (ds := []) #[false, false, false, false, false, false, false, false, false, false, false, false, false, false, false, false, false, false, false, false] (by kernel_rfl) rfl rfl ⟨(iH BK136.out 0).trans rfl, (iH BK136.out 1).trans rfl, ((HB.out.cell (World.block_lt_of_cell? w _ hw139_0)).trans hw139_0), ((HB.out.cell (World.block_lt_of_cell? w _ hw139_1)).trans hw139_1), ((HB.out.cell (World.block_lt_of_cell? w _ hw139_2)).trans hw139_2)⟩ (fun hHeld => ?_); refine jV stratumlaw12_Of.tab7 stratumlaw12_Of.bits7 (fun HT_ HW_ => ?_)
                        generalize wc.drew = w22 at HO_137001 BK131 BK136 HB hx139_0 hx139_1 hx139_2 hHeld ⊢
                        refine jA (i := 1) (N := some 47) (v := ?_) (a' := ?_) #[false, true, false, false, false, false, false, false, false, false, false, false, false, false, false, false, false, false, false, false] rfl rfl (iQ HT_.out (by kernel_rfl)) (fun _ _ _ h => h) (Or.inl ⟨by rfl, ?_⟩) ?_ ?_
                        rotate_left
                        · intro w'
                          go_simp
                          with_reducible rfl
                        rotate_left
                        · simp only [Act.put, List.setIfInBounds_toArray, List.set_cons_zero, List.set_cons_succ, iR, iT]
                          rfl
                        refine jA (i := 2) (N := some 48) (v := ?_) (a' := ?_) #[false, true, true, false, false, false, false, false, false, false, false, false, false, false, false, false, false, false, false, false] rfl rfl (iQ HT_.out (by kernel_rfl)) (fun _ _ _ h => h) (Or.inl ⟨by rfl, ?_⟩) ?_ ?_
                        rotate_left
                        · intro w'
                          go_simp
                          with_reducible rfl
                        rotate_left
                        · simp only [Act.put, List.setIfInBounds_toArray, List.set_cons_zero, List.set_cons_succ, iR, iT]
                          rfl
                        refine jA (i := 3) (N := some 49) (v := ?_) (a' := ?_) #[false, true, true, true, false, false, false, false, false, false, false, false, false, false, false, false, false, false, false, false] rfl rfl (iQ HT_.out (by kernel_rfl)) (fun _ _ _ h => h) (Or.inl ⟨by rfl, ?_⟩) ?_ ?_
                        rotate_left
                        · intro w'
                          go_simp
                          with_reducible rfl
                        rotate_left
                        · simp only [Act.put, List.setIfInBounds_toArray, List.set_cons_zero, List.set_cons_succ, iR, iT]
                          rfl
                        refine jA (i := 4) (N := some 50) (v := ?_) (a' := ?_) #[false, true, true, true, true, false, false, false, false, false, false, false, false, false, false, false, false, false, false, false] rfl rfl (iQ HT_.out (by kernel_rfl)) (fun _ _ _ h => h) (Or.inl ⟨by rfl, ?_⟩) ?_ ?_
                        rotate_left
                        · intro w'
                          go_simp
                          with_reducible rfl
                        rotate_left
                        · simp only [Act.put, List.setIfInBounds_toArray, List.set_cons_zero, List.set_cons_succ, iR, iT]
                          rfl
                        refine jA (i := 5) (N := some 51) (v := ?_) (a' := ?_) #[false, true, true, true, true, true, false, false, false, false, false, false, false, false, false, false, false, false, false, false] rfl rfl (iQ HT_.out (by kernel_rfl)) (fun _ _ _ h => h) (Or.inl ⟨by rfl, ?_⟩) ?_ ?_
                        rotate_left
                        · intro w'
                          go_simp
                          with_reducible rfl
                        rotate_left
                        · simp only [Act.put, List.setIfInBounds_toArray, List.set_cons_zero, List.set_cons_succ, iR, iT]
                          rfl
                        refine jA (i := 6) (N := some 52) (v := ?_) (a' := ?_) #[false, true, true, true, true, true, true, false, false, false, false, false, false, false, false, false, false, false, false, false] rfl rfl (iQ HT_.out (by kernel_rfl)) (fun _ _ _ h => h) (Or.inl ⟨by rfl, ?_⟩) ?_ ?_
                        rotate_left
                        · intro w'
                          go_simp
                          with_reducible rfl
                        rotate_left
                        · simp only [Act.put, List.setIfInBounds_toArray, List.set_cons_zero, List.set_cons_succ, iR, iT]
                          rfl
                        refine jA (i := 7) (N := some 53) (v := ?_) (a' := ?_) #[false, true, true, true, true, true, true, true, false, false, false, false, false, false, false, false, false, false, false, false] rfl rfl (iQ HT_.out (by kernel_rfl)) (fun _ _ _ h => h) (Or.inl ⟨by rfl, ?_⟩) ?_ ?_
                        rotate_left
                        · intro w'
                          go_simp
                          with_reducible rfl
                        rotate_left
                        · simp only [Act.put, List.setIfInBounds_toArray, List.set_cons_zero, List.set_cons_succ, iR, iT]
                          rfl
                        refine jA (i := 8) (N := some 54) (v := ?_) (a' := ?_) #[false, true, true, true, true, true, true, true, true, false, false, false, false, false, false, false, false, false, false, false] rfl rfl (iQ HT_.out (by kernel_rfl)) (fun _ _ _ h => h) (Or.inl ⟨by rfl, ?_⟩) ?_ ?_
                        rotate_left
                        · intro w'
                          go_simp
                          with_reducible rfl
                        rotate_left
                        · simp only [Act.put, List.setIfInBounds_toArray, List.set_cons_zero, List.set_cons_succ, iR, iT]
                          rfl
                        refine jA (i := 11) (N := some 57) (v := ?_) (a' := ?_) #[false, true, true, true, true, true, true, true, true, false, false, true, false, false, false, false, false, false, false, false] rfl rfl (iQ HT_.out (by kernel_rfl)) (fun _ _ _ h => h) (Or.inl ⟨by rfl, ?_⟩) ?_ ?_
                        rotate_left
                        · intro w'
                          go_simp
                          with_reducible rfl
                        rotate_left
                        · simp only [Act.put, List.setIfInBounds_toArray, List.set_cons_zero, List.set_cons_succ, iR, iT]
                          rfl
                        refine kF (i := 0) (N := some 46) (v := ?_) (a' := ?_) #[true, true, true, true, true, true, true, true, true, false, false, true, false, false, false, false, false, false, false, false] rfl rfl (jK HT_.out HW_.out (by kernel_rfl)) (fun _ _ _ h => h) (Or.inl ⟨by rfl, ?_⟩) hHeld ?_ ?_
                        rotate_left
                        · rintro w' ⟨s0, s1, s2, s3, s4⟩
                          go_simp
                          with_reducible rfl
                        rotate_left
                        · simp only [Act.put, List.setIfInBounds_toArray, List.set_cons_zero, List.set_cons_succ, iR, iT]
                          rfl
                        refine kF (i := 9) (N := some 55) (v := ?_) (a' := ?_) #[true, true, true, true, true, true, true, true, true, true, false, true, false, false, false, false, false, false, false, false] rfl rfl (jK HT_.out HW_.out (by kernel_rfl)) (fun _ _ _ h => h) (Or.inl ⟨by rfl, ?_⟩) hHeld ?_ ?_
                        rotate_left
                        · rintro w' ⟨s0, s1, s2, s3, s4⟩
                          go_simp
                          with_reducible rfl
                        rotate_left
                        · simp only [Act.put, List.setIfInBounds_toArray, List.set_cons_zero, List.set_cons_succ, iR, iT]
                          rfl
                        refine jA (i := 10) (N := some 56) (v := ?_) (a' := ?_) #[true, true, true, true, true, true, true, true, true, true, true, true, false, false, false, false, false, false, false, false] rfl rfl (iQ HT_.out (by kernel_rfl)) (fun _ _ _ h => h) (Or.inl ⟨by rfl, ?_⟩) ?_ ?_
                        rotate_left
                        · intro w'
                          go_simp
                          with_reducible rfl
                        rotate_left
                        · simp only [Act.put, List.setIfInBounds_toArray, List.set_cons_zero, List.set_cons_succ, iR, iT]
                          rfl
                        refine jA (i := 12) (N := some 58) (v := ?_) (a' := ?_) #[true, true, true, true, true, true, true, true, true, true, true, true, true, false, false, false, false, false, false, false] rfl rfl (iQ HT_.out (by kernel_rfl)) (fun _ _ _ h => h) (Or.inl ⟨by rfl, ?_⟩) ?_ ?_
                        rotate_left
                        · intro w'
                          go_simp
                          with_reducible rfl
                        rotate_left
                        · simp only [Act.put, List.setIfInBounds_toArray, List.set_cons_zero, List.set_cons_succ, iR, iT]
                          rfl
                        refine zZ (σ := Value × Nat) 2 #[true, true, true, true, true, true, true, true, true, true, true, true, true, true, true, true, true, true, false, false] (fun s_ => [(59, .tuple #[.agg #[.int .u32 t140, s_.1], .int .i64 t144]), (11, .pointer (some ⟨s_.2, 0, none⟩)), (45, .tuple #[.agg #[.int .u32 t140, s_.1], .int .i64 t144]), (60, .agg #[.int .u32 t140, s_.1]), (61, .int .i64 t144)]) (fun s_ w' => (w'.cell? ⟨gb136, 0, none⟩ = some (.int .u32 x137000_1) ∧ w'.cell? ⟨gb136, 1, none⟩ = some (.slice Ao21 x137001_1.length co21) ∧ w'.cell? (ad137.add ((x8_1).toNat * 3)) = some (.int .u16 ((jG l2 x8_1).f0)) ∧ w'.cell? ⟨(ad137.add ((x8_1).toNat * 3)).block, (ad137.add ((x8_1).toNat * 3)).off + 1, none⟩ = some (.int .u16 ((jG l2 x8_1).f1)) ∧ w'.cell? ⟨(ad137.add ((x8_1).toNat * 3)).block, (ad137.add ((x8_1).toNat * 3)).off + 2, none⟩ = some (.int .u8 ((jG l2 x8_1).f2))) ∧ (Kd.R k96 96 w' w.heap.size (fun k_ => some k_ ≠ (.slice Ao21 x137001_1.length co21 : Value).ownBlock) s_.1 t141) ∧ (Kd.R k96 96 w' w.heap.size (fun k_ => some k_ ≠ (s_.1 : Value).ownBlock) (.slice Ao21 x137001_1.length co21) x137001_1) ∧ (w'.heap[gb131]? = some (.cells #[.int .u32 0, .slice none 0 0] 42 (0, 0))) ∧ (w'.heap[gb136]? = some (.cells #[.int .u32 x137000_1, .slice Ao21 x137001_1.length co21] 42 (0, 0))) ∧ (w'.heap[s_.2]? = some (.cells #[.int .u32 0, .slice none 0 0] 42 (0, 0))) ∧ (w.heap.size ≤ s_.2) ∧ (w.heap.size ≤ s_.2) ∧ (gb131 ≠ s_.2) ∧ (s_.2 ≠ gb131) ∧ (gb136 ≠ s_.2) ∧ (s_.2 ≠ gb136) ∧ (Below w.heap.size w w')) ?_ ?_
                        rotate_left
                        · intro hCont
                          refine two_ (i := 13) (j := 17) (Ni := some 59) (Nj := some 11) #[true, true, true, true, true, true, true, true, true, true, true, true, true, true, false, false, false, false, false, false] #[true, true, true, true, true, true, true, true, true, true, true, true, true, false, false, false, false, true, false, false] rfl rfl rfl rfl (uG HT_.out (by kernel_rfl)) (by decide) (by decide) (fun K hK => ?_) (fun K hK => ?_)
                          · skip
                            refine kK Try.func46 (by kernel_rfl) rfl #[.agg #[.int .u32 x137000_1, .slice Ao21 x137001_1.length co21], .int .i64 a0, .int .i64 a1, .int .i64 (Int.tmod (wrap64 ((jG l2 x8_1).f0)) a0), .int .i64 (wrap64 ((wrap64 ((Int.tmod (wrap64 ((jG l2 x8_1).f0)) a0) + 1)) + (Int.tmod (wrap64 ((jG l2 x8_1).f1)) (wrap64 (a0 - (Int.tmod (wrap64 ((jG l2 x8_1).f0)) a0)))))), .int .i64 (Int.tmod (wrap64 ((jG l2 x8_1).f2)) a1)] (by rfl) rfl rfl (by (try simp only [List.map_toArray, List.map_cons, List.map_nil]); first | done | rfl | (simp only [List.length_drop, List.length_take]; rfl)) ?_
                            with_reducible refine (stratumref12_Split.calls kj10 x137000_1 _ _ x137001_1 a0 a1 (Int.tmod (wrap64 ((jG l2 x8_1).f0)) a0) (wrap64 ((wrap64 ((Int.tmod (wrap64 ((jG l2 x8_1).f0)) a0) + 1)) + (Int.tmod (wrap64 ((jG l2 x8_1).f1)) (wrap64 (a0 - (Int.tmod (wrap64 ((jG l2 x8_1).f0)) a0)))))) (Int.tmod (wrap64 ((jG l2 x8_1).f2)) a1) t140 t141 t144 _ ?side1 ?side2 A19.out).mono ?_
                            (case side1 => repeat (first | exact (Kd.R_reads' HO_137001.out).2.2 | (with_reducible refine Kd.C_alloc ?_ _) | (with_reducible refine Kd.C_drewN ?_ _) | (with_reducible refine Kd.C_drew ?_)))
                            (case side2 => exact (Kd.R_reads' HO_137001.out).2.1)
                            rintro e w23 ⟨v142, rfl, ho0, hb⟩
                            refine ⟨_, rfl, ?_⟩
                            have n0_ := iC.mk (Kd.R_elder' (by (with_reducible repeat (first | apply Kd.R_alloc | apply Kd.R_drewN | apply Kd.R_drew)); exact HO_137001.out) (Kd.R_base ho0) hb)
                            have n1_ := iC.mk (Kd.R_lower (Kd.R_new' ho0 (Kd.R_lt (by (with_reducible repeat (first | apply Kd.R_alloc | apply Kd.R_drewN | apply Kd.R_drew)); exact HO_137001.out))) (iJ (by repeat (first | (with_reducible first | exact HB.out | apply iG | apply iD | apply iF | refine iE ?_ GE131.out | refine iE ?_ GE136.out) | exact HB.out))))
                            have n2_ := iC.mk (iP (g := gb131) (o := .cells #[.int .u32 0, .slice none 0 0] 42 (0, 0)) (bk_ BK131.out) hb)
                            have n3_ := iC.mk (iP (g := gb136) (o := .cells #[.int .u32 x137000_1, .slice Ao21 x137001_1.length co21] 42 (0, 0)) (bk_ BK136.out) hb)
                            have n4_ := iC.mk (iM (by repeat (first | (with_reducible first | exact HB.out | apply iG | apply iD | apply iF | refine iE ?_ GE131.out | refine iE ?_ GE136.out) | exact HB.out)) hb)
                            clear HO_137001
                            clear BK131
                            clear BK136
                            clear HB
                            have HO_137001 := n0_
                            have HO143 := n1_
                            have BK131 := n2_
                            have BK136 := n3_
                            have HB := n4_
                            clear n0_ n1_ n2_ n3_ n4_
                            (try clear hb)
                            (try clear hb2)
                            (try clear hk)
                            (try clear hi)
                            (try clear ho0)
                            refine hK.out _ _ ⟨(iH BK136.out 0).trans rfl, (iH BK136.out 1).trans rfl, ((HB.out.cell (World.block_lt_of_cell? w _ hw139_0)).trans hw139_0), ((HB.out.cell (World.block_lt_of_cell? w _ hw139_1)).trans hw139_1), ((HB.out.cell (World.block_lt_of_cell? w _ hw139_2)).trans hw139_2)⟩ (fun hHeld => ?_)
                            clear hK K
                            refine jT (a' := ?_) ?_ ?_
                            rotate_left
                            · show Act.put _ (some 59) _ = _
                              simp only [Act.put, List.setIfInBounds_toArray, List.set_cons_zero, List.set_cons_succ, iR, iT]
                              rfl
                            refine jA (i := 14) (N := some 45) (v := ?_) (a' := ?_) #[true, true, true, true, true, true, true, true, true, true, true, true, true, true, true, false, false, false, false, false] rfl rfl (iQ HT_.out (by kernel_rfl)) (fun _ _ _ h => h) (Or.inl ⟨by rfl, ?_⟩) ?_ ?_
                            rotate_left
                            · intro w'
                              go_simp
                              with_reducible rfl
                            rotate_left
                            · simp only [Act.put, List.setIfInBounds_toArray, List.set_cons_zero, List.set_cons_succ, iR, iT]
                              rfl
                            refine jA (i := 15) (N := some 60) (v := ?_) (a' := ?_) #[true, true, true, true, true, true, true, true, true, true, true, true, true, true, true, true, false, false, false, false] rfl rfl (iQ HT_.out (by kernel_rfl)) (fun _ _ _ h => h) (Or.inl ⟨by rfl, ?_⟩) ?_ ?_
                            rotate_left
                            · intro w'
                              go_simp
                              with_reducible rfl
                            rotate_left
                            · simp only [Act.put, List.setIfInBounds_toArray, List.set_cons_zero, List.set_cons_succ, iR, iT]
                              rfl
                            refine jA (i := 16) (N := some 61) (v := ?_) (a' := ?_) #[true, true, true, true, true, true, true, true, true, true, true, true, true, true, true, true, true, false, false, false] rfl rfl (iQ HT_.out (by kernel_rfl)) (fun _ _ _ h => h) (Or.inl ⟨by rfl, ?_⟩) ?_ ?_
                            rotate_left
                            · intro w'
                              go_simp
                              with_reducible rfl
                            rotate_left
                            · simp only [Act.put, List.setIfInBounds_toArray, List.set_cons_zero, List.set_cons_succ, iR, iT]
                              rfl
                            refine one_ (i := 17) (N := some 11) #[true, true, true, true, true, true, true, true, true, true, true, true, true, true, true, true, true, true, false, false] rfl rfl (jS HT_.out (by kernel_rfl)) (by decide) (fun K hK => ?_)
                            refine nG ?hg (N := 11) ?hd (cs := #[.int .u32 0, .slice none 0 0]) (t := 42) ?hr ?_; (case hd => rfl); (case hg => rfl); (case hr => first | (go_simp; done) | (go_simp; rfl))
                            intro gb145 hg w24 hbox hb
                            have n0_ := iC.mk (Kd.R_below (by (with_reducible repeat (first | apply Kd.R_alloc | apply Kd.R_drewN | apply Kd.R_drew)); exact HO_137001.out) hb)
                            have n1_ := iC.mk (Kd.R_below (by (with_reducible repeat (first | apply Kd.R_alloc | apply Kd.R_drewN | apply Kd.R_drew)); exact HO143.out) hb)
                            have n2_ := iC.mk (iP (g := gb131) (o := .cells #[.int .u32 0, .slice none 0 0] 42 (0, 0)) (bk_ BK131.out) hb)
                            have n3_ := iC.mk (iP (g := gb136) (o := .cells #[.int .u32 x137000_1, .slice Ao21 x137001_1.length co21] 42 (0, 0)) (bk_ BK136.out) hb)
                            have n4_ := iC.mk (iM (by repeat (first | (with_reducible first | exact HB.out | apply iG | apply iD | apply iF | refine iE ?_ GE131.out | refine iE ?_ GE136.out) | exact HB.out)) hb)
                            have n5_ := iC.mk (hbox)
                            have n6_ := iC.mk ((by rw [hg]; exact (iJ (by repeat (first | (with_reducible first | exact HB.out | apply iG | apply iD | apply iF | refine iE ?_ GE131.out | refine iE ?_ GE136.out) | exact HB.out))) : w.heap.size ≤ gb145))
                            have n7_ := iC.mk ((by rw [hg]; exact (iJ (by repeat (first | (with_reducible first | exact HB.out | apply iG | apply iD | apply iF | refine iE ?_ GE131.out | refine iE ?_ GE136.out) | exact HB.out))) : w.heap.size ≤ gb145))
                            have n8_ := iC.mk ((by rw [hg]; exact Nat.ne_of_lt (jE (g := gb131) (o := .cells #[.int .u32 0, .slice none 0 0] 42 (0, 0)) (bk_ BK131.out)) : gb131 ≠ gb145))
                            have n9_ := iC.mk ((by rw [hg]; exact Nat.ne_of_gt (jE (g := gb131) (o := .cells #[.int .u32 0, .slice none 0 0] 42 (0, 0)) (bk_ BK131.out)) : gb145 ≠ gb131))
                            have n10_ := iC.mk ((by rw [hg]; exact Nat.ne_of_lt (jE (g := gb136) (o := .cells #[.int .u32 x137000_1, .slice Ao21 x137001_1.length co21] 42 (0, 0)) (bk_ BK136.out)) : gb136 ≠ gb145))
                            have n11_ := iC.mk ((by rw [hg]; exact Nat.ne_of_gt (jE (g := gb136) (o := .cells #[.int .u32 x137000_1, .slice Ao21 x137001_1.length co21] 42 (0, 0)) (bk_ BK136.out)) : gb145 ≠ gb136))
                            clear HO_137001
                            clear HO143
                            clear BK131
                            clear BK136
                            clear HB
                            have HO_137001 := n0_
                            have HO143 := n1_
                            have BK131 := n2_
                            have BK136 := n3_
                            have HB := n4_
                            have BK145 := n5_
                            have GW145 := n6_
                            have GE145 := n7_
                            have NB131_145 := n8_
                            have NB145_131 := n9_
                            have NB136_145 := n10_
                            have NB145_136 := n11_
                            clear n0_ n1_ n2_ n3_ n4_ n5_ n6_ n7_ n8_ n9_ n10_ n11_
                            clear hb hbox hg
                            refine hK.out _ _ ⟨(iH BK136.out 0).trans rfl, (iH BK136.out 1).trans rfl, ((HB.out.cell (World.block_lt_of_cell? w _ hw139_0)).trans hw139_0), ((HB.out.cell (World.block_lt_of_cell? w _ hw139_1)).trans hw139_1), ((HB.out.cell (World.block_lt_of_cell? w _ hw139_2)).trans hw139_2)⟩ (fun hHeld => ?_)
                            clear hK K
                            refine jT (a' := ?_) ?_ ?_
                            rotate_left
                            · show Act.put _ (some 11) _ = _
                              simp only [Act.put, List.setIfInBounds_toArray, List.set_cons_zero, List.set_cons_succ, iR, iT]
                              rfl
                            exact jT (by simp only [kZ, Act.put, List.setIfInBounds_toArray, List.set_cons_zero, List.set_cons_succ]) (hCont (v142, gb145) _ ⟨hHeld, (by (with_reducible repeat (first | apply Kd.R_alloc | apply Kd.R_drewN | apply Kd.R_drew)); exact Kd.R_mono HO143.out (fun _ hk => hk.2)), (by (with_reducible repeat (first | apply Kd.R_alloc | apply Kd.R_drewN | apply Kd.R_drew)); exact Kd.R_mono HO_137001.out (fun _ hk => hk.2)), (bk_ BK131.out), (bk_ BK136.out), (bk_ BK145.out), GW145.out, GE145.out, NB131_145.out, NB145_131.out, NB136_145.out, NB145_136.out, (by repeat (first | (with_reducible first | exact HB.out | apply iG | apply iD | apply iF | refine iE ?_ GE131.out | refine iE ?_ GE136.out | refine iE ?_ GE145.out) | exact HB.out))⟩)
                          · skip
                            refine nG ?hg (N := 11) ?hd (cs := #[.int .u32 0, .slice none 0 0]) (t := 42) ?hr ?_; (case hd => rfl); (case hg => rfl); (case hr => first | (go_simp; done) | (go_simp; rfl))
                            intro gb145 hg w23 hbox hb
                            have n0_ := iC.mk (Kd.R_below (by (with_reducible repeat (first | apply Kd.R_alloc | apply Kd.R_drewN | apply Kd.R_drew)); exact HO_137001.out) hb)
                            have n1_ := iC.mk (iP (g := gb131) (o := .cells #[.int .u32 0, .slice none 0 0] 42 (0, 0)) (bk_ BK131.out) hb)
                            have n2_ := iC.mk (iP (g := gb136) (o := .cells #[.int .u32 x137000_1, .slice Ao21 x137001_1.length co21] 42 (0, 0)) (bk_ BK136.out) hb)
                            have n3_ := iC.mk (iM (by repeat (first | (with_reducible first | exact HB.out | apply iG | apply iD | apply iF | refine iE ?_ GE131.out | refine iE ?_ GE136.out) | exact HB.out)) hb)
                            have n4_ := iC.mk (hbox)
                            have n5_ := iC.mk ((by rw [hg]; exact (iJ (by repeat (first | (with_reducible first | exact HB.out | apply iG | apply iD | apply iF | refine iE ?_ GE131.out | refine iE ?_ GE136.out) | exact HB.out))) : w.heap.size ≤ gb145))
                            have n6_ := iC.mk ((by rw [hg]; exact (iJ (by repeat (first | (with_reducible first | exact HB.out | apply iG | apply iD | apply iF | refine iE ?_ GE131.out | refine iE ?_ GE136.out) | exact HB.out))) : w.heap.size ≤ gb145))
                            have n7_ := iC.mk ((by rw [hg]; exact Nat.ne_of_lt (jE (g := gb131) (o := .cells #[.int .u32 0, .slice none 0 0] 42 (0, 0)) (bk_ BK131.out)) : gb131 ≠ gb145))
                            have n8_ := iC.mk ((by rw [hg]; exact Nat.ne_of_gt (jE (g := gb131) (o := .cells #[.int .u32 0, .slice none 0 0] 42 (0, 0)) (bk_ BK131.out)) : gb145 ≠ gb131))
                            have n9_ := iC.mk ((by rw [hg]; exact Nat.ne_of_lt (jE (g := gb136) (o := .cells #[.int .u32 x137000_1, .slice Ao21 x137001_1.length co21] 42 (0, 0)) (bk_ BK136.out)) : gb136 ≠ gb145))
                            have n10_ := iC.mk ((by rw [hg]; exact Nat.ne_of_gt (jE (g := gb136) (o := .cells #[.int .u32 x137000_1, .slice Ao21 x137001_1.length co21] 42 (0, 0)) (bk_ BK136.out)) : gb145 ≠ gb136))
                            clear HO_137001
                            clear BK131
                            clear BK136
                            clear HB
                            have HO_137001 := n0_
                            have BK131 := n1_
                            have BK136 := n2_
                            have HB := n3_
                            have BK145 := n4_
                            have GW145 := n5_
                            have GE145 := n6_
                            have NB131_145 := n7_
                            have NB145_131 := n8_
                            have NB136_145 := n9_
                            have NB145_136 := n10_
                            clear n0_ n1_ n2_ n3_ n4_ n5_ n6_ n7_ n8_ n9_ n10_
                            clear hb hbox hg
                            refine hK.out _ _ ⟨(iH BK136.out 0).trans rfl, (iH BK136.out 1).trans rfl, ((HB.out.cell (World.block_lt_of_cell? w _ hw139_0)).trans hw139_0), ((HB.out.cell (World.block_lt_of_cell? w _ hw139_1)).trans hw139_1), ((HB.out.cell (World.block_lt_of_cell? w _ hw139_2)).trans hw139_2)⟩ (fun hHeld => ?_)
                            clear hK K
                            refine jT (a' := ?_) ?_ ?_
                            rotate_left
                            · show Act.put _ (some 11) _ = _
                              simp only [Act.put, List.setIfInBounds_toArray, List.set_cons_zero, List.set_cons_succ, iR, iT]
                              rfl
                            refine one_ (i := 13) (N := some 59) #[true, true, true, true, true, true, true, true, true, true, true, true, true, true, false, false, false, true, false, false] rfl rfl (jS HT_.out (by kernel_rfl)) (by decide) (fun K hK => ?_)
                            refine kK Try.func46 (by kernel_rfl) rfl #[.agg #[.int .u32 x137000_1, .slice Ao21 x137001_1.length co21], .int .i64 a0, .int .i64 a1, .int .i64 (Int.tmod (wrap64 ((jG l2 x8_1).f0)) a0), .int .i64 (wrap64 ((wrap64 ((Int.tmod (wrap64 ((jG l2 x8_1).f0)) a0) + 1)) + (Int.tmod (wrap64 ((jG l2 x8_1).f1)) (wrap64 (a0 - (Int.tmod (wrap64 ((jG l2 x8_1).f0)) a0)))))), .int .i64 (Int.tmod (wrap64 ((jG l2 x8_1).f2)) a1)] (by rfl) rfl rfl (by (try simp only [List.map_toArray, List.map_cons, List.map_nil]); first | done | rfl | (simp only [List.length_drop, List.length_take]; rfl)) ?_
                            with_reducible refine (stratumref12_Split.calls kj10 x137000_1 _ _ x137001_1 a0 a1 (Int.tmod (wrap64 ((jG l2 x8_1).f0)) a0) (wrap64 ((wrap64 ((Int.tmod (wrap64 ((jG l2 x8_1).f0)) a0) + 1)) + (Int.tmod (wrap64 ((jG l2 x8_1).f1)) (wrap64 (a0 - (Int.tmod (wrap64 ((jG l2 x8_1).f0)) a0)))))) (Int.tmod (wrap64 ((jG l2 x8_1).f2)) a1) t140 t141 t144 _ ?side1 ?side2 A19.out).mono ?_
                            (case side1 => repeat (first | exact (Kd.R_reads' HO_137001.out).2.2 | (with_reducible refine Kd.C_alloc ?_ _) | (with_reducible refine Kd.C_drewN ?_ _) | (with_reducible refine Kd.C_drew ?_)))
                            (case side2 => exact (Kd.R_reads' HO_137001.out).2.1)
                            rintro e w24 ⟨v142, rfl, ho0, hb⟩
                            refine ⟨_, rfl, ?_⟩
                            have n0_ := iC.mk (Kd.R_elder' (by (with_reducible repeat (first | apply Kd.R_alloc | apply Kd.R_drewN | apply Kd.R_drew)); exact HO_137001.out) (Kd.R_base ho0) hb)
                            have n1_ := iC.mk (Kd.R_lower (Kd.R_new' ho0 (Kd.R_lt (by (with_reducible repeat (first | apply Kd.R_alloc | apply Kd.R_drewN | apply Kd.R_drew)); exact HO_137001.out))) (iJ (by repeat (first | (with_reducible first | exact HB.out | apply iG | apply iD | apply iF | refine iE ?_ GE131.out | refine iE ?_ GE136.out | refine iE ?_ GE145.out) | exact HB.out))))
                            have n2_ := iC.mk (iP (g := gb131) (o := .cells #[.int .u32 0, .slice none 0 0] 42 (0, 0)) (bk_ BK131.out) hb)
                            have n3_ := iC.mk (iP (g := gb136) (o := .cells #[.int .u32 x137000_1, .slice Ao21 x137001_1.length co21] 42 (0, 0)) (bk_ BK136.out) hb)
                            have n4_ := iC.mk (iP (g := gb145) (o := .cells #[.int .u32 0, .slice none 0 0] 42 (0, 0)) (bk_ BK145.out) hb)
                            have n5_ := iC.mk (iM (by repeat (first | (with_reducible first | exact HB.out | apply iG | apply iD | apply iF | refine iE ?_ GE131.out | refine iE ?_ GE136.out | refine iE ?_ GE145.out) | exact HB.out)) hb)
                            clear HO_137001
                            clear BK131
                            clear BK136
                            clear BK145
                            clear HB
                            have HO_137001 := n0_
                            have HO143 := n1_
                            have BK131 := n2_
                            have BK136 := n3_
                            have BK145 := n4_
                            have HB := n5_
                            clear n0_ n1_ n2_ n3_ n4_ n5_
                            (try clear hb)
                            (try clear hb2)
                            (try clear hk)
                            (try clear hi)
                            (try clear ho0)
                            refine hK.out _ _ ⟨(iH BK136.out 0).trans rfl, (iH BK136.out 1).trans rfl, ((HB.out.cell (World.block_lt_of_cell? w _ hw139_0)).trans hw139_0), ((HB.out.cell (World.block_lt_of_cell? w _ hw139_1)).trans hw139_1), ((HB.out.cell (World.block_lt_of_cell? w _ hw139_2)).trans hw139_2)⟩ (fun hHeld => ?_)
                            clear hK K
                            refine jT (a' := ?_) ?_ ?_
                            rotate_left
                            · show Act.put _ (some 59) _ = _
                              simp only [Act.put, List.setIfInBounds_toArray, List.set_cons_zero, List.set_cons_succ, iR, iT]
                              rfl
                            refine jA (i := 14) (N := some 45) (v := ?_) (a' := ?_) #[true, true, true, true, true, true, true, true, true, true, true, true, true, true, true, false, false, true, false, false] rfl rfl (iQ HT_.out (by kernel_rfl)) (fun _ _ _ h => h) (Or.inl ⟨by rfl, ?_⟩) ?_ ?_
                            rotate_left
                            · intro w'
                              go_simp
                              with_reducible rfl
                            rotate_left
                            · simp only [Act.put, List.setIfInBounds_toArray, List.set_cons_zero, List.set_cons_succ, iR, iT]
                              rfl
                            refine jA (i := 15) (N := some 60) (v := ?_) (a' := ?_) #[true, true, true, true, true, true, true, true, true, true, true, true, true, true, true, true, false, true, false, false] rfl rfl (iQ HT_.out (by kernel_rfl)) (fun _ _ _ h => h) (Or.inl ⟨by rfl, ?_⟩) ?_ ?_
                            rotate_left
                            · intro w'
                              go_simp
                              with_reducible rfl
                            rotate_left
                            · simp only [Act.put, List.setIfInBounds_toArray, List.set_cons_zero, List.set_cons_succ, iR, iT]
                              rfl
                            refine jA (i := 16) (N := some 61) (v := ?_) (a' := ?_) #[true, true, true, true, true, true, true, true, true, true, true, true, true, true, true, true, true, true, false, false] rfl rfl (iQ HT_.out (by kernel_rfl)) (fun _ _ _ h => h) (Or.inl ⟨by rfl, ?_⟩) ?_ ?_
                            rotate_left
                            · intro w'
                              go_simp
                              with_reducible rfl
                            rotate_left
                            · simp only [Act.put, List.setIfInBounds_toArray, List.set_cons_zero, List.set_cons_succ, iR, iT]
                              rfl
                            exact jT (by simp only [kZ, Act.put, List.setIfInBounds_toArray, List.set_cons_zero, List.set_cons_succ]) (hCont (v142, gb145) _ ⟨hHeld, (by (with_reducible repeat (first | apply Kd.R_alloc | apply Kd.R_drewN | apply Kd.R_drew)); exact Kd.R_mono HO143.out (fun _ hk => hk.2)), (by (with_reducible repeat (first | apply Kd.R_alloc | apply Kd.R_drewN | apply Kd.R_drew)); exact Kd.R_mono HO_137001.out (fun _ hk => hk.2)), (bk_ BK131.out), (bk_ BK136.out), (bk_ BK145.out), GW145.out, GE145.out, NB131_145.out, NB145_131.out, NB136_145.out, NB145_136.out, (by repeat (first | (with_reducible first | exact HB.out | apply iG | apply iD | apply iF | refine iE ?_ GE131.out | refine iE ?_ GE136.out | refine iE ?_ GE145.out) | exact HB.out))⟩)
                        rintro ⟨v142, gb145⟩ w25 ⟨hS_, h0_, h1_, h2_, h3_, h4_, h5_, h6_, h7_, h8_, h9_, h10_, h11_⟩
                        have n0_ : iC (Kd.R k96 96 w25 w.heap.size (fun k_ => some k_ ≠ (.slice Ao21 x137001_1.length co21 : Value).ownBlock) v142 t141) := ⟨h0_⟩
                        have n1_ : iC (Kd.R k96 96 w25 w.heap.size (fun k_ => some k_ ≠ (v142 : Value).ownBlock) (.slice Ao21 x137001_1.length co21) x137001_1) := ⟨h1_⟩
                        have n2_ : iC (w25.heap[gb131]? = some (.cells #[.int .u32 0, .slice none 0 0] 42 (0, 0))) := ⟨h2_⟩
                        have n3_ : iC (w25.heap[gb136]? = some (.cells #[.int .u32 x137000_1, .slice Ao21 x137001_1.length co21] 42 (0, 0))) := ⟨h3_⟩
                        have n4_ : iC (w25.heap[gb145]? = some (.cells #[.int .u32 0, .slice none 0 0] 42 (0, 0))) := ⟨h4_⟩
                        have n5_ : iC (w.heap.size ≤ gb145) := ⟨h5_⟩
                        have n6_ : iC (w.heap.size ≤ gb145) := ⟨h6_⟩
                        have n7_ : iC (gb131 ≠ gb145) := ⟨h7_⟩
                        have n8_ : iC (gb145 ≠ gb131) := ⟨h8_⟩
                        have n9_ : iC (gb136 ≠ gb145) := ⟨h9_⟩
                        have n10_ : iC (gb145 ≠ gb136) := ⟨h10_⟩
                        have n11_ : iC (Below w.heap.size w w25) := ⟨h11_⟩
                        clear HO_137001
                        clear BK131
                        clear BK136
                        clear HB
                        clear h0_ h1_ h2_ h3_ h4_ h5_ h6_ h7_ h8_ h9_ h10_ h11_
                        have HO143 := n0_
                        have HO_137001 := n1_
                        have BK131 := n2_
                        have BK136 := n3_
                        have BK145 := n4_
                        have GW145 := n5_
                        have GE145 := n6_
                        have NB131_145 := n7_
                        have NB145_131 := n8_
                        have NB136_145 := n9_
                        have NB145_136 := n10_
                        have HB := n11_
                        clear n0_ n1_ n2_ n3_ n4_ n5_ n6_ n7_ n8_ n9_ n10_ n11_
                        have hHeld : w25.cell? ⟨gb136, 0, none⟩ = some (.int .u32 x137000_1) ∧ w25.cell? ⟨gb136, 1, none⟩ = some (.slice Ao21 x137001_1.length co21) ∧ w25.cell? (ad137.add ((x8_1).toNat * 3)) = some (.int .u16 ((jG l2 x8_1).f0)) ∧ w25.cell? ⟨(ad137.add ((x8_1).toNat * 3)).block, (ad137.add ((x8_1).toNat * 3)).off + 1, none⟩ = some (.int .u16 ((jG l2 x8_1).f1)) ∧ w25.cell? ⟨(ad137.add ((x8_1).toNat * 3)).block, (ad137.add ((x8_1).toNat * 3)).off + 2, none⟩ = some (.int .u8 ((jG l2 x8_1).f2)) := hS_
                        obtain ⟨Ao27, co27, eo27⟩ := Kd.R_slice HO143.out
                        (first | subst eo27 | (injection eo27 with f1_ f2_ f3_; have f4_ := f1_.symm; have f5_ := f3_.symm; clear f1_ f2_ f3_; subst f4_; subst f5_))
                        refine jT (a' := ?_) ?_ ?_
                        rotate_left
                        · simp only [kZ, Act.put, List.setIfInBounds_toArray, List.set_cons_zero, List.set_cons_succ]
                          rfl
                        refine one_ (i := 18) (N := none) #[true, true, true, true, true, true, true, true, true, true, true, true, true, true, true, true, true, true, true, false] rfl rfl (jS HT_.out (by kernel_rfl)) (by decide) (fun K hK => ?_)
                        have hs26 : w25.cell? ⟨gb145, 0, none⟩ = some (.int .u32 0) := (iH BK145.out 0).trans rfl
                        have hfs26 := iI BK145.out 0
                        have hns26_0 := NB131_145.out
                        have hns26_1 := NB136_145.out
                        have hms26_0 := NB145_131.out
                        have hms26_1 := NB145_136.out
                        have hs28 : w25.cell? ⟨gb145, 1, none⟩ = some (.slice none 0 0) := (iH BK145.out 1).trans rfl
                        have hfs28 := iI BK145.out 1
                        have hns28_0 := NB131_145.out
                        have hns28_1 := NB136_145.out
                        have hms28_0 := NB145_131.out
                        have hms28_1 := NB145_136.out
                        refine I9 (w1 := ?_) (by rfl) rfl ?_ ?_
                        rotate_left
                        · go_simp
                          rfl
                        refine hK.out _ _ ⟨((cell_far (p := ⟨gb145, _, none⟩) NB136_145.out _).trans (((cell_far (p := ⟨gb145, _, none⟩) NB136_145.out _).trans (hHeld.1)))), ((cell_far (p := ⟨gb145, _, none⟩) NB136_145.out _).trans (((cell_far (p := ⟨gb145, _, none⟩) NB136_145.out _).trans (hHeld.2.1)))), ((cell_far (p := ⟨gb145, _, none⟩) (by first | exact Nat.ne_of_lt (Nat.lt_of_lt_of_le (by have := World.block_lt_of_cell? _ _ hw139_0; first | rwa [add_block] at this | exact this) GW145.out) | (rw [add_block]; exact Nat.ne_of_lt (Nat.lt_of_lt_of_le (by have := World.block_lt_of_cell? _ _ hw139_0; first | rwa [add_block] at this | exact this) GW145.out)) | (show (Addr.add _ _).block ≠ _; rw [add_block]; exact Nat.ne_of_lt (Nat.lt_of_lt_of_le (by have := World.block_lt_of_cell? _ _ hw139_0; first | rwa [add_block] at this | exact this) GW145.out)) | (dsimp only; exact Nat.ne_of_lt (Nat.lt_of_lt_of_le (by have := World.block_lt_of_cell? _ _ hw139_0; first | rwa [add_block] at this | exact this) GW145.out))) _).trans (((cell_far (p := ⟨gb145, _, none⟩) (by first | exact Nat.ne_of_lt (Nat.lt_of_lt_of_le (by have := World.block_lt_of_cell? _ _ hw139_0; first | rwa [add_block] at this | exact this) GW145.out) | (rw [add_block]; exact Nat.ne_of_lt (Nat.lt_of_lt_of_le (by have := World.block_lt_of_cell? _ _ hw139_0; first | rwa [add_block] at this | exact this) GW145.out)) | (show (Addr.add _ _).block ≠ _; rw [add_block]; exact Nat.ne_of_lt (Nat.lt_of_lt_of_le (by have := World.block_lt_of_cell? _ _ hw139_0; first | rwa [add_block] at this | exact this) GW145.out)) | (dsimp only; exact Nat.ne_of_lt (Nat.lt_of_lt_of_le (by have := World.block_lt_of_cell? _ _ hw139_0; first | rwa [add_block] at this | exact this) GW145.out))) _).trans (hHeld.2.2.1)))), ((cell_far (p := ⟨gb145, _, none⟩) (by first | exact Nat.ne_of_lt (Nat.lt_of_lt_of_le (by have := World.block_lt_of_cell? _ _ hw139_1; first | rwa [add_block] at this | exact this) GW145.out) | (rw [add_block]; exact Nat.ne_of_lt (Nat.lt_of_lt_of_le (by have := World.block_lt_of_cell? _ _ hw139_1; first | rwa [add_block] at this | exact this) GW145.out)) | (show (Addr.add _ _).block ≠ _; rw [add_block]; exact Nat.ne_of_lt (Nat.lt_of_lt_of_le (by have := World.block_lt_of_cell? _ _ hw139_1; first | rwa [add_block] at this | exact this) GW145.out)) | (dsimp only; exact Nat.ne_of_lt (Nat.lt_of_lt_of_le (by have := World.block_lt_of_cell? _ _ hw139_1; first | rwa [add_block] at this | exact this) GW145.out))) _).trans (((cell_far (p := ⟨gb145, _, none⟩) (by first | exact Nat.ne_of_lt (Nat.lt_of_lt_of_le (by have := World.block_lt_of_cell? _ _ hw139_1; first | rwa [add_block] at this | exact this) GW145.out) | (rw [add_block]; exact Nat.ne_of_lt (Nat.lt_of_lt_of_le (by have := World.block_lt_of_cell? _ _ hw139_1; first | rwa [add_block] at this | exact this) GW145.out)) | (show (Addr.add _ _).block ≠ _; rw [add_block]; exact Nat.ne_of_lt (Nat.lt_of_lt_of_le (by have := World.block_lt_of_cell? _ _ hw139_1; first | rwa [add_block] at this | exact this) GW145.out)) | (dsimp only; exact Nat.ne_of_lt (Nat.lt_of_lt_of_le (by have := World.block_lt_of_cell? _ _ hw139_1; first | rwa [add_block] at this | exact this) GW145.out))) _).trans (hHeld.2.2.2.1)))), ((cell_far (p := ⟨gb145, _, none⟩) (by first | exact Nat.ne_of_lt (Nat.lt_of_lt_of_le (by have := World.block_lt_of_cell? _ _ hw139_2; first | rwa [add_block] at this | exact this) GW145.out) | (rw [add_block]; exact Nat.ne_of_lt (Nat.lt_of_lt_of_le (by have := World.block_lt_of_cell? _ _ hw139_2; first | rwa [add_block] at this | exact this) GW145.out)) | (show (Addr.add _ _).block ≠ _; rw [add_block]; exact Nat.ne_of_lt (Nat.lt_of_lt_of_le (by have := World.block_lt_of_cell? _ _ hw139_2; first | rwa [add_block] at this | exact this) GW145.out)) | (dsimp only; exact Nat.ne_of_lt (Nat.lt_of_lt_of_le (by have := World.block_lt_of_cell? _ _ hw139_2; first | rwa [add_block] at this | exact this) GW145.out))) _).trans (((cell_far (p := ⟨gb145, _, none⟩) (by first | exact Nat.ne_of_lt (Nat.lt_of_lt_of_le (by have := World.block_lt_of_cell? _ _ hw139_2; first | rwa [add_block] at this | exact this) GW145.out) | (rw [add_block]; exact Nat.ne_of_lt (Nat.lt_of_lt_of_le (by have := World.block_lt_of_cell? _ _ hw139_2; first | rwa [add_block] at this | exact this) GW145.out)) | (show (Addr.add _ _).block ≠ _; rw [add_block]; exact Nat.ne_of_lt (Nat.lt_of_lt_of_le (by have := World.block_lt_of_cell? _ _ hw139_2; first | rwa [add_block] at this | exact this) GW145.out)) | (dsimp only; exact Nat.ne_of_lt (Nat.lt_of_lt_of_le (by have := World.block_lt_of_cell? _ _ hw139_2; first | rwa [add_block] at this | exact this) GW145.out))) _).trans (hHeld.2.2.2.2))))⟩ (fun hHeld => ?_)
                        clear hK K
                        refine jA (i := 19) (N := some 12) (v := ?_) (a' := ?_) #[true, true, true, true, true, true, true, true, true, true, true, true, true, true, true, true, true, true, true, true] rfl rfl (iQ HT_.out (by kernel_rfl)) (fun _ _ _ h => h) (Or.inl ⟨by rfl, ?_⟩) ?_ ?_
                        rotate_left
                        · intro w'
                          go_simp
                          with_reducible rfl
                        rotate_left
                        · simp only [Act.put, List.setIfInBounds_toArray, List.set_cons_zero, List.set_cons_succ, iR, iT]
                          rfl
                        refine lT (kH HT_.out (by kernel_rfl)) ?_
                        have hnb29 := NB145_131.out
                        have hnc29 := NB131_145.out
                        have hnb30 := NB145_136.out
                        have hnc30 := NB136_145.out
                        have hcz31_0 : w25.cell? ⟨gb145, 0, none⟩ = some (.int .u32 0) := (iH BK145.out 0).trans rfl
                        have hcz31_1 : w25.cell? ⟨gb145, 1, none⟩ = some (.slice none 0 0) := (iH BK145.out 1).trans rfl
                        have hfz31_0 := iI BK145.out 0
                        have hfz31_1 := iI BK145.out 1
                        have hnb32 := NB136_131.out
                        have hnc32 := NB131_136.out
                        have hcz33_0 : w25.cell? ⟨gb136, 0, none⟩ = some (.int .u32 x137000_1) := (iH BK136.out 0).trans rfl
                        have hcz33_1 : w25.cell? ⟨gb136, 1, none⟩ = some (.slice Ao21 x137001_1.length co21) := (iH BK136.out 1).trans rfl
                        have hfz33_0 := iI BK136.out 0
                        have hfz33_1 := iI BK136.out 1
                        try go_wp2
                        go_roundg kj10
                        case measure => have := HK1.out; have := HJ10.out; omega
                        case rel => exact ⟨(wrap64 (x8_1 + 1)), (t140), (t141), (.slice Ao27 t141.length co27), (by first | rfl | (simp; done) | (simp [*]; done)), H', ⟨by have := HK1.out; have := HJ10.out; omega⟩, ⟨by (with_reducible repeat (first | apply Kd.R_alloc | apply Kd.R_drewN | apply Kd.R_drew)); exact Kd.R_mono (Kd.R_far (p := ⟨gb136, 1, none⟩) (Kd.R_far (p := ⟨gb136, 0, none⟩) (Kd.R_far (p := ⟨gb145, 1, none⟩) (Kd.R_far (p := ⟨gb145, 0, none⟩) (Kd.R_types (Kd.R_types HO143.out BK145.out (by decide)) BK136.out (by decide)) (fun _ hk => hk.1.2) (.int .u32 t140)) (fun _ hk => hk.1.2) (.slice Ao27 t141.length co27)) (fun _ hk => hk.2) (.int .u32 t140)) (fun _ hk => hk.2) (.slice Ao27 t141.length co27)) (fun _ hk => trivial)⟩, ⟨by (with_reducible repeat (first | refine iL ?_ _ | refine iO ?_ | refine iK ?_ _)); refine jI ?_ NB131_136.out _; (with_reducible repeat (first | refine iL ?_ _ | refine iO ?_ | refine iK ?_ _)); refine jI ?_ NB131_136.out _; (with_reducible repeat (first | refine iL ?_ _ | refine iO ?_ | refine iK ?_ _)); refine jI ?_ NB131_145.out _; (with_reducible repeat (first | refine iL ?_ _ | refine iO ?_ | refine iK ?_ _)); refine jI ?_ NB131_145.out _; (with_reducible repeat (first | refine iL ?_ _ | refine iO ?_ | refine iK ?_ _)); exact BK131.out⟩, ⟨by (with_reducible repeat (first | refine iL ?_ _ | refine iO ?_ | refine iK ?_ _)); refine jC (cs := #[.int .u32 t140, .slice Ao21 x137001_1.length co21]) ?_ 1 _ rfl; (with_reducible repeat (first | refine iL ?_ _ | refine iO ?_ | refine iK ?_ _)); refine jC (cs := #[.int .u32 x137000_1, .slice Ao21 x137001_1.length co21]) ?_ 0 _ rfl; (with_reducible repeat (first | refine iL ?_ _ | refine iO ?_ | refine iK ?_ _)); refine jI ?_ NB136_145.out _; (with_reducible repeat (first | refine iL ?_ _ | refine iO ?_ | refine iK ?_ _)); refine jI ?_ NB136_145.out _; (with_reducible repeat (first | refine iL ?_ _ | refine iO ?_ | refine iK ?_ _)); exact BK136.out⟩, ⟨by repeat (first | (with_reducible first | exact HB.out | apply iG | apply iD | apply iF | refine iE ?_ GE131.out | refine iE ?_ GE136.out | refine iE ?_ GE145.out) | exact HB.out)⟩⟩
                      · rw [if_neg c20] at H
                        have c20b0 : (t144 == 0) = false := beq_eq_false_iff_ne.mpr c20
                        have c20b1 : (t144 != 0) = true := bne_iff_ne.mpr c20
                        have H' := iC.mk H
                        clear H
                        have p137 : 0 ≤ (x8_1 : Int) := of_decide_eq_true asm_
                        have q137 : x8_1 < (l2.length : Int) := of_decide_eq_true asm_
                        obtain ⟨ad137, e137, hx137_0, hx137_1, hx137_2⟩ := o6 HR2.out x8_1 p137 q137
                        cases e137
                        replace hx137_0 := (HB.out.cell (World.block_lt_of_cell? w _ hx137_0)).trans hx137_0
                        replace hx137_1 := (HB.out.cell (World.block_lt_of_cell? w _ hx137_1)).trans hx137_1
                        replace hx137_2 := (HB.out.cell (World.block_lt_of_cell? w _ hx137_2)).trans hx137_2
                        replace p137 := eq_true p137
                        replace q137 := eq_true q137
                        have p138 : 0 ≤ (x8_1 : Int) := of_decide_eq_true asm_
                        have q138 : x8_1 < (l2.length : Int) := of_decide_eq_true asm_
                        obtain ⟨ad138, e138, hx138_0, hx138_1, hx138_2⟩ := o6 HR2.out x8_1 p138 q138
                        obtain rfl : ad137 = ad138 := (by injection e138)
                        replace hx138_0 := (HB.out.cell (World.block_lt_of_cell? w _ hx138_0)).trans hx138_0
                        replace hx138_1 := (HB.out.cell (World.block_lt_of_cell? w _ hx138_1)).trans hx138_1
                        replace hx138_2 := (HB.out.cell (World.block_lt_of_cell? w _ hx138_2)).trans hx138_2
                        replace p138 := eq_true p138
                        replace q138 := eq_true q138
                        obtain ⟨Ao34, co34, eo34⟩ := Kd.R_slice HO_137001.out
                        subst eo34
                        try go_wp2
                        have n0_ := iC.mk (Kd.R_drew HO_137001.out)
                        have n1_ := iC.mk (iO BK131.out)
                        have n2_ := iC.mk (iO BK136.out)
                        have n3_ := iC.mk (iF HB.out)
                        clear HO_137001
                        clear BK131
                        clear BK136
                        clear HB
                        have HO_137001 := n0_
                        have BK131 := n1_
                        have BK136 := n2_
                        have HB := n3_
                        clear n0_ n1_ n2_ n3_
                        have p139 : 0 ≤ (x8_1 : Int) := of_decide_eq_true asm_
                        have q139 : x8_1 < (l2.length : Int) := of_decide_eq_true asm_
                        obtain ⟨ad139, e139, hx139_0, hx139_1, hx139_2⟩ := o6 HR2.out x8_1 p139 q139
                        have hw139_2 := hx139_2
                        have hw139_1 := hx139_1
                        have hw139_0 := hx139_0
                        obtain rfl : ad137 = ad139 := (by injection e139)
                        replace hx139_0 := (HB.out.cell (World.block_lt_of_cell? w _ hx139_0)).trans hx139_0
                        replace hx139_1 := (HB.out.cell (World.block_lt_of_cell? w _ hx139_1)).trans hx139_1
                        replace hx139_2 := (HB.out.cell (World.block_lt_of_cell? w _ hx139_2)).trans hx139_2
                        replace p139 := eq_true p139
                        replace q139 := eq_true q139
                        refine kP (n := 20) (S := fun w' => w'.cell? ⟨gb136, 0, none⟩ = some (.int .u32 x137000_1) ∧ w'.cell? ⟨gb136, 1, none⟩ = some (.slice Ao34 x137001_1.length co34) ∧ w'.cell? (ad137.add ((x8_1).toNat * 3)) = some (.int .u16 ((jG l2 x8_1).f0)) ∧ w'.cell? ⟨(ad137.add ((x8_1).toNat * 3)).block, (ad137.add ((x8_1).toNat * 3)).off + 1, none⟩ = some (.int .u16 ((jG l2 x8_1).f1)) ∧ w'.cell? ⟨(ad137.add ((x8_1).toNat * 3)).block, (ad137.add ((x8_1).toNat * 3)).off + 2, none⟩ = some (.int .u8 ((jG l2 x8_1).f2))) (ds := []) #[false, false, false, false, false, false, false, false, false, false, false, false, false, false, false, false, false, false, false, false] (by kernel_rfl) rfl rfl ⟨(iH BK136.out 0).trans rfl, (iH BK136.out 1).trans rfl, ((HB.out.cell (World.block_lt_of_cell? w _ hw139_0)).trans hw139_0), ((HB.out.cell (World.block_lt_of_cell? w _ hw139_1)).trans hw139_1), ((HB.out.cell (World.block_lt_of_cell? w _ hw139_2)).trans hw139_2)⟩ (fun hHeld => ?_); refine jV stratumlaw12_Of.tab7 stratumlaw12_Of.bits7 (fun HT_ HW_ => ?_)
                        generalize wc.drew = w35 at HO_137001 BK131 BK136 HB hx139_0 hx139_1 hx139_2 hHeld ⊢
                        refine jA (i := 1) (N := some 47) (v := ?_) (a' := ?_) #[false, true, false, false, false, false, false, false, false, false, false, false, false, false, false, false, false, false, false, false] rfl rfl (iQ HT_.out (by kernel_rfl)) (fun _ _ _ h => h) (Or.inl ⟨by rfl, ?_⟩) ?_ ?_
                        rotate_left
                        · intro w'
                          go_simp
                          with_reducible rfl
                        rotate_left
                        · simp only [Act.put, List.setIfInBounds_toArray, List.set_cons_zero, List.set_cons_succ, iR, iT]
                          rfl
                        refine jA (i := 2) (N := some 48) (v := ?_) (a' := ?_) #[false, true, true, false, false, false, false, false, false, false, false, false, false, false, false, false, false, false, false, false] rfl rfl (iQ HT_.out (by kernel_rfl)) (fun _ _ _ h => h) (Or.inl ⟨by rfl, ?_⟩) ?_ ?_
                        rotate_left
                        · intro w'
                          go_simp
                          with_reducible rfl
                        rotate_left
                        · simp only [Act.put, List.setIfInBounds_toArray, List.set_cons_zero, List.set_cons_succ, iR, iT]
                          rfl
                        refine jA (i := 3) (N := some 49) (v := ?_) (a' := ?_) #[false, true, true, true, false, false, false, false, false, false, false, false, false, false, false, false, false, false, false, false] rfl rfl (iQ HT_.out (by kernel_rfl)) (fun _ _ _ h => h) (Or.inl ⟨by rfl, ?_⟩) ?_ ?_
                        rotate_left
                        · intro w'
                          go_simp
                          with_reducible rfl
                        rotate_left
                        · simp only [Act.put, List.setIfInBounds_toArray, List.set_cons_zero, List.set_cons_succ, iR, iT]
                          rfl
                        refine jA (i := 4) (N := some 50) (v := ?_) (a' := ?_) #[false, true, true, true, true, false, false, false, false, false, false, false, false, false, false, false, false, false, false, false] rfl rfl (iQ HT_.out (by kernel_rfl)) (fun _ _ _ h => h) (Or.inl ⟨by rfl, ?_⟩) ?_ ?_
                        rotate_left
                        · intro w'
                          go_simp
                          with_reducible rfl
                        rotate_left
                        · simp only [Act.put, List.setIfInBounds_toArray, List.set_cons_zero, List.set_cons_succ, iR, iT]
                          rfl
                        refine jA (i := 5) (N := some 51) (v := ?_) (a' := ?_) #[false, true, true, true, true, true, false, false, false, false, false, false, false, false, false, false, false, false, false, false] rfl rfl (iQ HT_.out (by kernel_rfl)) (fun _ _ _ h => h) (Or.inl ⟨by rfl, ?_⟩) ?_ ?_
                        rotate_left
                        · intro w'
                          go_simp
                          with_reducible rfl
                        rotate_left
                        · simp only [Act.put, List.setIfInBounds_toArray, List.set_cons_zero, List.set_cons_succ, iR, iT]
                          rfl
                        refine jA (i := 6) (N := some 52) (v := ?_) (a' := ?_) #[false, true, true, true, true, true, true, false, false, false, false, false, false, false, false, false, false, false, false, false] rfl rfl (iQ HT_.out (by kernel_rfl)) (fun _ _ _ h => h) (Or.inl ⟨by rfl, ?_⟩) ?_ ?_
                        rotate_left
                        · intro w'
                          go_simp
                          with_reducible rfl
                        rotate_left
                        · simp only [Act.put, List.setIfInBounds_toArray, List.set_cons_zero, List.set_cons_succ, iR, iT]
                          rfl
                        refine jA (i := 7) (N := some 53) (v := ?_) (a' := ?_) #[false, true, true, true, true, true, true, true, false, false, false, false, false, false, false, false, false, false, false, false] rfl rfl (iQ HT_.out (by kernel_rfl)) (fun _ _ _ h => h) (Or.inl ⟨by rfl, ?_⟩) ?_ ?_
                        rotate_left
                        · intro w'
                          go_simp
                          with_reducible rfl
                        rotate_left
                        · simp only [Act.put, List.setIfInBounds_toArray, List.set_cons_zero, List.set_cons_succ, iR, iT]
                          rfl
                        refine jA (i := 8) (N := some 54) (v := ?_) (a' := ?_) #[false, true, true, true, true, true, true, true, true, false, false, false, false, false, false, false, false, false, false, false] rfl rfl (iQ HT_.out (by kernel_rfl)) (fun _ _ _ h => h) (Or.inl ⟨by rfl, ?_⟩) ?_ ?_
                        rotate_left
                        · intro w'
                          go_simp
                          with_reducible rfl
                        rotate_left
                        · simp only [Act.put, List.setIfInBounds_toArray, List.set_cons_zero, List.set_cons_succ, iR, iT]
                          rfl
                        refine jA (i := 11) (N := some 57) (v := ?_) (a' := ?_) #[false, true, true, true, true, true, true, true, true, false, false, true, false, false, false, false, false, false, false, false] rfl rfl (iQ HT_.out (by kernel_rfl)) (fun _ _ _ h => h) (Or.inl ⟨by rfl, ?_⟩) ?_ ?_
                        rotate_left
                        · intro w'
                          go_simp
                          with_reducible rfl
                        rotate_left
                        · simp only [Act.put, List.setIfInBounds_toArray, List.set_cons_zero, List.set_cons_succ, iR, iT]
                          rfl
                        refine kF (i := 0) (N := some 46) (v := ?_) (a' := ?_) #[true, true, true, true, true, true, true, true, true, false, false, true, false, false, false, false, false, false, false, false] rfl rfl (jK HT_.out HW_.out (by kernel_rfl)) (fun _ _ _ h => h) (Or.inl ⟨by rfl, ?_⟩) hHeld ?_ ?_
                        rotate_left
                        · rintro w' ⟨s0, s1, s2, s3, s4⟩
                          go_simp
                          with_reducible rfl
                        rotate_left
                        · simp only [Act.put, List.setIfInBounds_toArray, List.set_cons_zero, List.set_cons_succ, iR, iT]
                          rfl
                        refine kF (i := 9) (N := some 55) (v := ?_) (a' := ?_) #[true, true, true, true, true, true, true, true, true, true, false, true, false, false, false, false, false, false, false, false] rfl rfl (jK HT_.out HW_.out (by kernel_rfl)) (fun _ _ _ h => h) (Or.inl ⟨by rfl, ?_⟩) hHeld ?_ ?_
                        rotate_left
                        · rintro w' ⟨s0, s1, s2, s3, s4⟩
                          go_simp
                          with_reducible rfl
                        rotate_left
                        · simp only [Act.put, List.setIfInBounds_toArray, List.set_cons_zero, List.set_cons_succ, iR, iT]
                          rfl
                        refine jA (i := 10) (N := some 56) (v := ?_) (a' := ?_) #[true, true, true, true, true, true, true, true, true, true, true, true, false, false, false, false, false, false, false, false] rfl rfl (iQ HT_.out (by kernel_rfl)) (fun _ _ _ h => h) (Or.inl ⟨by rfl, ?_⟩) ?_ ?_
                        rotate_left
                        · intro w'
                          go_simp
                          with_reducible rfl
                        rotate_left
                        · simp only [Act.put, List.setIfInBounds_toArray, List.set_cons_zero, List.set_cons_succ, iR, iT]
                          rfl
                        refine jA (i := 12) (N := some 58) (v := ?_) (a' := ?_) #[true, true, true, true, true, true, true, true, true, true, true, true, true, false, false, false, false, false, false, false] rfl rfl (iQ HT_.out (by kernel_rfl)) (fun _ _ _ h => h) (Or.inl ⟨by rfl, ?_⟩) ?_ ?_
                        rotate_left
                        · intro w'
                          go_simp
                          with_reducible rfl
                        rotate_left
                        · simp only [Act.put, List.setIfInBounds_toArray, List.set_cons_zero, List.set_cons_succ, iR, iT]
                          rfl
                        refine zZ (σ := Value × Nat) 2 #[true, true, true, true, true, true, true, true, true, true, true, true, true, true, true, true, true, true, false, false] (fun s_ => [(59, .tuple #[.agg #[.int .u32 t140, s_.1], .int .i64 t144]), (11, .pointer (some ⟨s_.2, 0, none⟩)), (45, .tuple #[.agg #[.int .u32 t140, s_.1], .int .i64 t144]), (60, .agg #[.int .u32 t140, s_.1]), (61, .int .i64 t144)]) (fun s_ w' => (w'.cell? ⟨gb136, 0, none⟩ = some (.int .u32 x137000_1) ∧ w'.cell? ⟨gb136, 1, none⟩ = some (.slice Ao34 x137001_1.length co34) ∧ w'.cell? (ad137.add ((x8_1).toNat * 3)) = some (.int .u16 ((jG l2 x8_1).f0)) ∧ w'.cell? ⟨(ad137.add ((x8_1).toNat * 3)).block, (ad137.add ((x8_1).toNat * 3)).off + 1, none⟩ = some (.int .u16 ((jG l2 x8_1).f1)) ∧ w'.cell? ⟨(ad137.add ((x8_1).toNat * 3)).block, (ad137.add ((x8_1).toNat * 3)).off + 2, none⟩ = some (.int .u8 ((jG l2 x8_1).f2))) ∧ (Kd.R k96 96 w' w.heap.size (fun k_ => some k_ ≠ (.slice Ao34 x137001_1.length co34 : Value).ownBlock) s_.1 t141) ∧ (Kd.R k96 96 w' w.heap.size (fun k_ => some k_ ≠ (s_.1 : Value).ownBlock) (.slice Ao34 x137001_1.length co34) x137001_1) ∧ (w'.heap[gb131]? = some (.cells #[.int .u32 0, .slice none 0 0] 42 (0, 0))) ∧ (w'.heap[gb136]? = some (.cells #[.int .u32 x137000_1, .slice Ao34 x137001_1.length co34] 42 (0, 0))) ∧ (w'.heap[s_.2]? = some (.cells #[.int .u32 0, .slice none 0 0] 42 (0, 0))) ∧ (w.heap.size ≤ s_.2) ∧ (w.heap.size ≤ s_.2) ∧ (gb131 ≠ s_.2) ∧ (s_.2 ≠ gb131) ∧ (gb136 ≠ s_.2) ∧ (s_.2 ≠ gb136) ∧ (Below w.heap.size w w')) ?_ ?_
                        rotate_left
                        · intro hCont
                          refine two_ (i := 13) (j := 17) (Ni := some 59) (Nj := some 11) #[true, true, true, true, true, true, true, true, true, true, true, true, true, true, false, false, false, false, false, false] #[true, true, true, true, true, true, true, true, true, true, true, true, true, false, false, false, false, true, false, false] rfl rfl rfl rfl (uG HT_.out (by kernel_rfl)) (by decide) (by decide) (fun K hK => ?_) (fun K hK => ?_)
                          · skip
                            refine kK Try.func46 (by kernel_rfl) rfl #[.agg #[.int .u32 x137000_1, .slice Ao34 x137001_1.length co34], .int .i64 a0, .int .i64 a1, .int .i64 (Int.tmod (wrap64 ((jG l2 x8_1).f0)) a0), .int .i64 (wrap64 ((wrap64 ((Int.tmod (wrap64 ((jG l2 x8_1).f0)) a0) + 1)) + (Int.tmod (wrap64 ((jG l2 x8_1).f1)) (wrap64 (a0 - (Int.tmod (wrap64 ((jG l2 x8_1).f0)) a0)))))), .int .i64 (Int.tmod (wrap64 ((jG l2 x8_1).f2)) a1)] (by rfl) rfl rfl (by (try simp only [List.map_toArray, List.map_cons, List.map_nil]); first | done | rfl | (simp only [List.length_drop, List.length_take]; rfl)) ?_
                            with_reducible refine (stratumref12_Split.calls kj10 x137000_1 _ _ x137001_1 a0 a1 (Int.tmod (wrap64 ((jG l2 x8_1).f0)) a0) (wrap64 ((wrap64 ((Int.tmod (wrap64 ((jG l2 x8_1).f0)) a0) + 1)) + (Int.tmod (wrap64 ((jG l2 x8_1).f1)) (wrap64 (a0 - (Int.tmod (wrap64 ((jG l2 x8_1).f0)) a0)))))) (Int.tmod (wrap64 ((jG l2 x8_1).f2)) a1) t140 t141 t144 _ ?side1 ?side2 A19.out).mono ?_
                            (case side1 => repeat (first | exact (Kd.R_reads' HO_137001.out).2.2 | (with_reducible refine Kd.C_alloc ?_ _) | (with_reducible refine Kd.C_drewN ?_ _) | (with_reducible refine Kd.C_drew ?_)))
                            (case side2 => exact (Kd.R_reads' HO_137001.out).2.1)
                            rintro e w36 ⟨v142, rfl, ho0, hb⟩
                            refine ⟨_, rfl, ?_⟩
                            have n0_ := iC.mk (Kd.R_elder' (by (with_reducible repeat (first | apply Kd.R_alloc | apply Kd.R_drewN | apply Kd.R_drew)); exact HO_137001.out) (Kd.R_base ho0) hb)
                            have n1_ := iC.mk (Kd.R_lower (Kd.R_new' ho0 (Kd.R_lt (by (with_reducible repeat (first | apply Kd.R_alloc | apply Kd.R_drewN | apply Kd.R_drew)); exact HO_137001.out))) (iJ (by repeat (first | (with_reducible first | exact HB.out | apply iG | apply iD | apply iF | refine iE ?_ GE131.out | refine iE ?_ GE136.out) | exact HB.out))))
                            have n2_ := iC.mk (iP (g := gb131) (o := .cells #[.int .u32 0, .slice none 0 0] 42 (0, 0)) (bk_ BK131.out) hb)
                            have n3_ := iC.mk (iP (g := gb136) (o := .cells #[.int .u32 x137000_1, .slice Ao34 x137001_1.length co34] 42 (0, 0)) (bk_ BK136.out) hb)
                            have n4_ := iC.mk (iM (by repeat (first | (with_reducible first | exact HB.out | apply iG | apply iD | apply iF | refine iE ?_ GE131.out | refine iE ?_ GE136.out) | exact HB.out)) hb)
                            clear HO_137001
                            clear BK131
                            clear BK136
                            clear HB
                            have HO_137001 := n0_
                            have HO143 := n1_
                            have BK131 := n2_
                            have BK136 := n3_
                            have HB := n4_
                            clear n0_ n1_ n2_ n3_ n4_
                            (try clear hb)
                            (try clear hb2)
                            (try clear hk)
                            (try clear hi)
                            (try clear ho0)
                            refine hK.out _ _ ⟨(iH BK136.out 0).trans rfl, (iH BK136.out 1).trans rfl, ((HB.out.cell (World.block_lt_of_cell? w _ hw139_0)).trans hw139_0), ((HB.out.cell (World.block_lt_of_cell? w _ hw139_1)).trans hw139_1), ((HB.out.cell (World.block_lt_of_cell? w _ hw139_2)).trans hw139_2)⟩ (fun hHeld => ?_)
                            clear hK K
                            refine jT (a' := ?_) ?_ ?_
                            rotate_left
                            · show Act.put _ (some 59) _ = _
                              simp only [Act.put, List.setIfInBounds_toArray, List.set_cons_zero, List.set_cons_succ, iR, iT]
                              rfl
                            refine jA (i := 14) (N := some 45) (v := ?_) (a' := ?_) #[true, true, true, true, true, true, true, true, true, true, true, true, true, true, true, false, false, false, false, false] rfl rfl (iQ HT_.out (by kernel_rfl)) (fun _ _ _ h => h) (Or.inl ⟨by rfl, ?_⟩) ?_ ?_
                            rotate_left
                            · intro w'
                              go_simp
                              with_reducible rfl
                            rotate_left
                            · simp only [Act.put, List.setIfInBounds_toArray, List.set_cons_zero, List.set_cons_succ, iR, iT]
                              rfl
                            refine jA (i := 15) (N := some 60) (v := ?_) (a' := ?_) #[true, true, true, true, true, true, true, true, true, true, true, true, true, true, true, true, false, false, false, false] rfl rfl (iQ HT_.out (by kernel_rfl)) (fun _ _ _ h => h) (Or.inl ⟨by rfl, ?_⟩) ?_ ?_
                            rotate_left
                            · intro w'
                              go_simp
                              with_reducible rfl
                            rotate_left
                            · simp only [Act.put, List.setIfInBounds_toArray, List.set_cons_zero, List.set_cons_succ, iR, iT]
                              rfl
                            refine jA (i := 16) (N := some 61) (v := ?_) (a' := ?_) #[true, true, true, true, true, true, true, true, true, true, true, true, true, true, true, true, true, false, false, false] rfl rfl (iQ HT_.out (by kernel_rfl)) (fun _ _ _ h => h) (Or.inl ⟨by rfl, ?_⟩) ?_ ?_
                            rotate_left
                            · intro w'
                              go_simp
                              with_reducible rfl
                            rotate_left
                            · simp only [Act.put, List.setIfInBounds_toArray, List.set_cons_zero, List.set_cons_succ, iR, iT]
                              rfl
                            refine one_ (i := 17) (N := some 11) #[true, true, true, true, true, true, true, true, true, true, true, true, true, true, true, true, true, true, false, false] rfl rfl (jS HT_.out (by kernel_rfl)) (by decide) (fun K hK => ?_)
                            refine nG ?hg (N := 11) ?hd (cs := #[.int .u32 0, .slice none 0 0]) (t := 42) ?hr ?_; (case hd => rfl); (case hg => rfl); (case hr => first | (go_simp; done) | (go_simp; rfl))
                            intro gb145 hg w37 hbox hb
                            have n0_ := iC.mk (Kd.R_below (by (with_reducible repeat (first | apply Kd.R_alloc | apply Kd.R_drewN | apply Kd.R_drew)); exact HO_137001.out) hb)
                            have n1_ := iC.mk (Kd.R_below (by (with_reducible repeat (first | apply Kd.R_alloc | apply Kd.R_drewN | apply Kd.R_drew)); exact HO143.out) hb)
                            have n2_ := iC.mk (iP (g := gb131) (o := .cells #[.int .u32 0, .slice none 0 0] 42 (0, 0)) (bk_ BK131.out) hb)
                            have n3_ := iC.mk (iP (g := gb136) (o := .cells #[.int .u32 x137000_1, .slice Ao34 x137001_1.length co34] 42 (0, 0)) (bk_ BK136.out) hb)
                            have n4_ := iC.mk (iM (by repeat (first | (with_reducible first | exact HB.out | apply iG | apply iD | apply iF | refine iE ?_ GE131.out | refine iE ?_ GE136.out) | exact HB.out)) hb)
                            have n5_ := iC.mk (hbox)
                            have n6_ := iC.mk ((by rw [hg]; exact (iJ (by repeat (first | (with_reducible first | exact HB.out | apply iG | apply iD | apply iF | refine iE ?_ GE131.out | refine iE ?_ GE136.out) | exact HB.out))) : w.heap.size ≤ gb145))
                            have n7_ := iC.mk ((by rw [hg]; exact (iJ (by repeat (first | (with_reducible first | exact HB.out | apply iG | apply iD | apply iF | refine iE ?_ GE131.out | refine iE ?_ GE136.out) | exact HB.out))) : w.heap.size ≤ gb145))
                            have n8_ := iC.mk ((by rw [hg]; exact Nat.ne_of_lt (jE (g := gb131) (o := .cells #[.int .u32 0, .slice none 0 0] 42 (0, 0)) (bk_ BK131.out)) : gb131 ≠ gb145))
                            have n9_ := iC.mk ((by rw [hg]; exact Nat.ne_of_gt (jE (g := gb131) (o := .cells #[.int .u32 0, .slice none 0 0] 42 (0, 0)) (bk_ BK131.out)) : gb145 ≠ gb131))
                            have n10_ := iC.mk ((by rw [hg]; exact Nat.ne_of_lt (jE (g := gb136) (o := .cells #[.int .u32 x137000_1, .slice Ao34 x137001_1.length co34] 42 (0, 0)) (bk_ BK136.out)) : gb136 ≠ gb145))
                            have n11_ := iC.mk ((by rw [hg]; exact Nat.ne_of_gt (jE (g := gb136) (o := .cells #[.int .u32 x137000_1, .slice Ao34 x137001_1.length co34] 42 (0, 0)) (bk_ BK136.out)) : gb145 ≠ gb136))
                            clear HO_137001
                            clear HO143
                            clear BK131
                            clear BK136
                            clear HB
                            have HO_137001 := n0_
                            have HO143 := n1_
                            have BK131 := n2_
                            have BK136 := n3_
                            have HB := n4_
                            have BK145 := n5_
                            have GW145 := n6_
                            have GE145 := n7_
                            have NB131_145 := n8_
                            have NB145_131 := n9_
                            have NB136_145 := n10_
                            have NB145_136 := n11_
                            clear n0_ n1_ n2_ n3_ n4_ n5_ n6_ n7_ n8_ n9_ n10_ n11_
                            clear hb hbox hg
                            refine hK.out _ _ ⟨(iH BK136.out 0).trans rfl, (iH BK136.out 1).trans rfl, ((HB.out.cell (World.block_lt_of_cell? w _ hw139_0)).trans hw139_0), ((HB.out.cell (World.block_lt_of_cell? w _ hw139_1)).trans hw139_1), ((HB.out.cell (World.block_lt_of_cell? w _ hw139_2)).trans hw139_2)⟩ (fun hHeld => ?_)
                            clear hK K
                            refine jT (a' := ?_) ?_ ?_
                            rotate_left
                            · show Act.put _ (some 11) _ = _
                              simp only [Act.put, List.setIfInBounds_toArray, List.set_cons_zero, List.set_cons_succ, iR, iT]
                              rfl
                            exact jT (by simp only [kZ, Act.put, List.setIfInBounds_toArray, List.set_cons_zero, List.set_cons_succ]) (hCont (v142, gb145) _ ⟨hHeld, (by (with_reducible repeat (first | apply Kd.R_alloc | apply Kd.R_drewN | apply Kd.R_drew)); exact Kd.R_mono HO143.out (fun _ hk => hk.2)), (by (with_reducible repeat (first | apply Kd.R_alloc | apply Kd.R_drewN | apply Kd.R_drew)); exact Kd.R_mono HO_137001.out (fun _ hk => hk.2)), (bk_ BK131.out), (bk_ BK136.out), (bk_ BK145.out), GW145.out, GE145.out, NB131_145.out, NB145_131.out, NB136_145.out, NB145_136.out, (by repeat (first | (with_reducible first | exact HB.out | apply iG | apply iD | apply iF | refine iE ?_ GE131.out | refine iE ?_ GE136.out | refine iE ?_ GE145.out) | exact HB.out))⟩)
                          · skip
                            refine nG ?hg (N := 11) ?hd (cs := #[.int .u32 0, .slice none 0 0]) (t := 42) ?hr ?_; (case hd => rfl); (case hg => rfl); (case hr => first | (go_simp; done) | (go_simp; rfl))
                            intro gb145 hg w36 hbox hb
                            have n0_ := iC.mk (Kd.R_below (by (with_reducible repeat (first | apply Kd.R_alloc | apply Kd.R_drewN | apply Kd.R_drew)); exact HO_137001.out) hb)
                            have n1_ := iC.mk (iP (g := gb131) (o := .cells #[.int .u32 0, .slice none 0 0] 42 (0, 0)) (bk_ BK131.out) hb)
                            have n2_ := iC.mk (iP (g := gb136) (o := .cells #[.int .u32 x137000_1, .slice Ao34 x137001_1.length co34] 42 (0, 0)) (bk_ BK136.out) hb)
                            have n3_ := iC.mk (iM (by repeat (first | (with_reducible first | exact HB.out | apply iG | apply iD | apply iF | refine iE ?_ GE131.out | refine iE ?_ GE136.out) | exact HB.out)) hb)
                            have n4_ := iC.mk (hbox)
                            have n5_ := iC.mk ((by rw [hg]; exact (iJ (by repeat (first | (with_reducible first | exact HB.out | apply iG | apply iD | apply iF | refine iE ?_ GE131.out | refine iE ?_ GE136.out) | exact HB.out))) : w.heap.size ≤ gb145))
                            have n6_ := iC.mk ((by rw [hg]; exact (iJ (by repeat (first | (with_reducible first | exact HB.out | apply iG | apply iD | apply iF | refine iE ?_ GE131.out | refine iE ?_ GE136.out) | exact HB.out))) : w.heap.size ≤ gb145))
                            have n7_ := iC.mk ((by rw [hg]; exact Nat.ne_of_lt (jE (g := gb131) (o := .cells #[.int .u32 0, .slice none 0 0] 42 (0, 0)) (bk_ BK131.out)) : gb131 ≠ gb145))
                            have n8_ := iC.mk ((by rw [hg]; exact Nat.ne_of_gt (jE (g := gb131) (o := .cells #[.int .u32 0, .slice none 0 0] 42 (0, 0)) (bk_ BK131.out)) : gb145 ≠ gb131))
                            have n9_ := iC.mk ((by rw [hg]; exact Nat.ne_of_lt (jE (g := gb136) (o := .cells #[.int .u32 x137000_1, .slice Ao34 x137001_1.length co34] 42 (0, 0)) (bk_ BK136.out)) : gb136 ≠ gb145))
                            have n10_ := iC.mk ((by rw [hg]; exact Nat.ne_of_gt (jE (g := gb136) (o := .cells #[.int .u32 x137000_1, .slice Ao34 x137001_1.length co34] 42 (0, 0)) (bk_ BK136.out)) : gb145 ≠ gb136))
                            clear HO_137001
                            clear BK131
                            clear BK136
                            clear HB
                            have HO_137001 := n0_
                            have BK131 := n1_
                            have BK136 := n2_
                            have HB := n3_
                            have BK145 := n4_
                            have GW145 := n5_
                            have GE145 := n6_
                            have NB131_145 := n7_
                            have NB145_131 := n8_
                            have NB136_145 := n9_
                            have NB145_136 := n10_
                            clear n0_ n1_ n2_ n3_ n4_ n5_ n6_ n7_ n8_ n9_ n10_
                            clear hb hbox hg
                            refine hK.out _ _ ⟨(iH BK136.out 0).trans rfl, (iH BK136.out 1).trans rfl, ((HB.out.cell (World.block_lt_of_cell? w _ hw139_0)).trans hw139_0), ((HB.out.cell (World.block_lt_of_cell? w _ hw139_1)).trans hw139_1), ((HB.out.cell (World.block_lt_of_cell? w _ hw139_2)).trans hw139_2)⟩ (fun hHeld => ?_)
                            clear hK K
                            refine jT (a' := ?_) ?_ ?_
                            rotate_left
                            · show Act.put _ (some 11) _ = _
                              simp only [Act.put, List.setIfInBounds_toArray, List.set_cons_zero, List.set_cons_succ, iR, iT]
                              rfl
                            refine one_ (i := 13) (N := some 59) #[true, true, true, true, true, true, true, true, true, true, true, true, true, true, false, false, false, true, false, false] rfl rfl (jS HT_.out (by kernel_rfl)) (by decide) (fun K hK => ?_)
                            refine kK Try.func46 (by kernel_rfl) rfl #[.agg #[.int .u32 x137000_1, .slice Ao34 x137001_1.length co34], .int .i64 a0, .int .i64 a1, .int .i64 (Int.tmod (wrap64 ((jG l2 x8_1).f0)) a0), .int .i64 (wrap64 ((wrap64 ((Int.tmod (wrap64 ((jG l2 x8_1).f0)) a0) + 1)) + (Int.tmod (wrap64 ((jG l2 x8_1).f1)) (wrap64 (a0 - (Int.tmod (wrap64 ((jG l2 x8_1).f0)) a0)))))), .int .i64 (Int.tmod (wrap64 ((jG l2 x8_1).f2)) a1)] (by rfl) rfl rfl (by (try simp only [List.map_toArray, List.map_cons, List.map_nil]); first | done | rfl | (simp only [List.length_drop, List.length_take]; rfl)) ?_
                            with_reducible refine (stratumref12_Split.calls kj10 x137000_1 _ _ x137001_1 a0 a1 (Int.tmod (wrap64 ((jG l2 x8_1).f0)) a0) (wrap64 ((wrap64 ((Int.tmod (wrap64 ((jG l2 x8_1).f0)) a0) + 1)) + (Int.tmod (wrap64 ((jG l2 x8_1).f1)) (wrap64 (a0 - (Int.tmod (wrap64 ((jG l2 x8_1).f0)) a0)))))) (Int.tmod (wrap64 ((jG l2 x8_1).f2)) a1) t140 t141 t144 _ ?side1 ?side2 A19.out).mono ?_
                            (case side1 => repeat (first | exact (Kd.R_reads' HO_137001.out).2.2 | (with_reducible refine Kd.C_alloc ?_ _) | (with_reducible refine Kd.C_drewN ?_ _) | (with_reducible refine Kd.C_drew ?_)))
                            (case side2 => exact (Kd.R_reads' HO_137001.out).2.1)
                            rintro e w37 ⟨v142, rfl, ho0, hb⟩
                            refine ⟨_, rfl, ?_⟩
                            have n0_ := iC.mk (Kd.R_elder' (by (with_reducible repeat (first | apply Kd.R_alloc | apply Kd.R_drewN | apply Kd.R_drew)); exact HO_137001.out) (Kd.R_base ho0) hb)
                            have n1_ := iC.mk (Kd.R_lower (Kd.R_new' ho0 (Kd.R_lt (by (with_reducible repeat (first | apply Kd.R_alloc | apply Kd.R_drewN | apply Kd.R_drew)); exact HO_137001.out))) (iJ (by repeat (first | (with_reducible first | exact HB.out | apply iG | apply iD | apply iF | refine iE ?_ GE131.out | refine iE ?_ GE136.out | refine iE ?_ GE145.out) | exact HB.out))))
                            have n2_ := iC.mk (iP (g := gb131) (o := .cells #[.int .u32 0, .slice none 0 0] 42 (0, 0)) (bk_ BK131.out) hb)
                            have n3_ := iC.mk (iP (g := gb136) (o := .cells #[.int .u32 x137000_1, .slice Ao34 x137001_1.length co34] 42 (0, 0)) (bk_ BK136.out) hb)
                            have n4_ := iC.mk (iP (g := gb145) (o := .cells #[.int .u32 0, .slice none 0 0] 42 (0, 0)) (bk_ BK145.out) hb)
                            have n5_ := iC.mk (iM (by repeat (first | (with_reducible first | exact HB.out | apply iG | apply iD | apply iF | refine iE ?_ GE131.out | refine iE ?_ GE136.out | refine iE ?_ GE145.out) | exact HB.out)) hb)
                            clear HO_137001
                            clear BK131
                            clear BK136
                            clear BK145
                            clear HB
                            have HO_137001 := n0_
                            have HO143 := n1_
                            have BK131 := n2_
                            have BK136 := n3_
                            have BK145 := n4_
                            have HB := n5_
                            clear n0_ n1_ n2_ n3_ n4_ n5_
                            (try clear hb)
                            (try clear hb2)
                            (try clear hk)
                            (try clear hi)
                            (try clear ho0)
                            refine hK.out _ _ ⟨(iH BK136.out 0).trans rfl, (iH BK136.out 1).trans rfl, ((HB.out.cell (World.block_lt_of_cell? w _ hw139_0)).trans hw139_0), ((HB.out.cell (World.block_lt_of_cell? w _ hw139_1)).trans hw139_1), ((HB.out.cell (World.block_lt_of_cell? w _ hw139_2)).trans hw139_2)⟩ (fun hHeld => ?_)
                            clear hK K
                            refine jT (a' := ?_) ?_ ?_
                            rotate_left
                            · show Act.put _ (some 59) _ = _
                              simp only [Act.put, List.setIfInBounds_toArray, List.set_cons_zero, List.set_cons_succ, iR, iT]
                              rfl
                            refine jA (i := 14) (N := some 45) (v := ?_) (a' := ?_) #[true, true, true, true, true, true, true, true, true, true, true, true, true, true, true, false, false, true, false, false] rfl rfl (iQ HT_.out (by kernel_rfl)) (fun _ _ _ h => h) (Or.inl ⟨by rfl, ?_⟩) ?_ ?_
                            rotate_left
                            · intro w'
                              go_simp
                              with_reducible rfl
                            rotate_left
                            · simp only [Act.put, List.setIfInBounds_toArray, List.set_cons_zero, List.set_cons_succ, iR, iT]
                              rfl
                            refine jA (i := 15) (N := some 60) (v := ?_) (a' := ?_) #[true, true, true, true, true, true, true, true, true, true, true, true, true, true, true, true, false, true, false, false] rfl rfl (iQ HT_.out (by kernel_rfl)) (fun _ _ _ h => h) (Or.inl ⟨by rfl, ?_⟩) ?_ ?_
                            rotate_left
                            · intro w'
                              go_simp
                              with_reducible rfl
                            rotate_left
                            · simp only [Act.put, List.setIfInBounds_toArray, List.set_cons_zero, List.set_cons_succ, iR, iT]
                              rfl
                            refine jA (i := 16) (N := some 61) (v := ?_) (a' := ?_) #[true, true, true, true, true, true, true, true, true, true, true, true, true, true, true, true, true, true, false, false] rfl rfl (iQ HT_.out (by kernel_rfl)) (fun _ _ _ h => h) (Or.inl ⟨by rfl, ?_⟩) ?_ ?_
                            rotate_left
                            · intro w'
                              go_simp
                              with_reducible rfl
                            rotate_left
                            · simp only [Act.put, List.setIfInBounds_toArray, List.set_cons_zero, List.set_cons_succ, iR, iT]
                              rfl
                            exact jT (by simp only [kZ, Act.put, List.setIfInBounds_toArray, List.set_cons_zero, List.set_cons_succ]) (hCont (v142, gb145) _ ⟨hHeld, (by (with_reducible repeat (first | apply Kd.R_alloc | apply Kd.R_drewN | apply Kd.R_drew)); exact Kd.R_mono HO143.out (fun _ hk => hk.2)), (by (with_reducible repeat (first | apply Kd.R_alloc | apply Kd.R_drewN | apply Kd.R_drew)); exact Kd.R_mono HO_137001.out (fun _ hk => hk.2)), (bk_ BK131.out), (bk_ BK136.out), (bk_ BK145.out), GW145.out, GE145.out, NB131_145.out, NB145_131.out, NB136_145.out, NB145_136.out, (by repeat (first | (with_reducible first | exact HB.out | apply iG | apply iD | apply iF | refine iE ?_ GE131.out | refine iE ?_ GE136.out | refine iE ?_ GE145.out) | exact HB.out))⟩)
                        rintro ⟨v142, gb145⟩ w38 ⟨hS_, h0_, h1_, h2_, h3_, h4_, h5_, h6_, h7_, h8_, h9_, h10_, h11_⟩
                        have n0_ : iC (Kd.R k96 96 w38 w.heap.size (fun k_ => some k_ ≠ (.slice Ao34 x137001_1.length co34 : Value).ownBlock) v142 t141) := ⟨h0_⟩
                        have n1_ : iC (Kd.R k96 96 w38 w.heap.size (fun k_ => some k_ ≠ (v142 : Value).ownBlock) (.slice Ao34 x137001_1.length co34) x137001_1) := ⟨h1_⟩
                        have n2_ : iC (w38.heap[gb131]? = some (.cells #[.int .u32 0, .slice none 0 0] 42 (0, 0))) := ⟨h2_⟩
                        have n3_ : iC (w38.heap[gb136]? = some (.cells #[.int .u32 x137000_1, .slice Ao34 x137001_1.length co34] 42 (0, 0))) := ⟨h3_⟩
                        have n4_ : iC (w38.heap[gb145]? = some (.cells #[.int .u32 0, .slice none 0 0] 42 (0, 0))) := ⟨h4_⟩
                        have n5_ : iC (w.heap.size ≤ gb145) := ⟨h5_⟩
                        have n6_ : iC (w.heap.size ≤ gb145) := ⟨h6_⟩
                        have n7_ : iC (gb131 ≠ gb145) := ⟨h7_⟩
                        have n8_ : iC (gb145 ≠ gb131) := ⟨h8_⟩
                        have n9_ : iC (gb136 ≠ gb145) := ⟨h9_⟩
                        have n10_ : iC (gb145 ≠ gb136) := ⟨h10_⟩
                        have n11_ : iC (Below w.heap.size w w38) := ⟨h11_⟩
                        clear HO_137001
                        clear BK131
                        clear BK136
                        clear HB
                        clear h0_ h1_ h2_ h3_ h4_ h5_ h6_ h7_ h8_ h9_ h10_ h11_
                        have HO143 := n0_
                        have HO_137001 := n1_
                        have BK131 := n2_
                        have BK136 := n3_
                        have BK145 := n4_
                        have GW145 := n5_
                        have GE145 := n6_
                        have NB131_145 := n7_
                        have NB145_131 := n8_
                        have NB136_145 := n9_
                        have NB145_136 := n10_
                        have HB := n11_
                        clear n0_ n1_ n2_ n3_ n4_ n5_ n6_ n7_ n8_ n9_ n10_ n11_
                        have hHeld : w38.cell? ⟨gb136, 0, none⟩ = some (.int .u32 x137000_1) ∧ w38.cell? ⟨gb136, 1, none⟩ = some (.slice Ao34 x137001_1.length co34) ∧ w38.cell? (ad137.add ((x8_1).toNat * 3)) = some (.int .u16 ((jG l2 x8_1).f0)) ∧ w38.cell? ⟨(ad137.add ((x8_1).toNat * 3)).block, (ad137.add ((x8_1).toNat * 3)).off + 1, none⟩ = some (.int .u16 ((jG l2 x8_1).f1)) ∧ w38.cell? ⟨(ad137.add ((x8_1).toNat * 3)).block, (ad137.add ((x8_1).toNat * 3)).off + 2, none⟩ = some (.int .u8 ((jG l2 x8_1).f2)) := hS_
                        obtain ⟨Ao40, co40, eo40⟩ := Kd.R_slice HO143.out
                        (first | subst eo40 | (injection eo40 with f1_ f2_ f3_; have f4_ := f1_.symm; have f5_ := f3_.symm; clear f1_ f2_ f3_; subst f4_; subst f5_))
                        refine jT (a' := ?_) ?_ ?_
                        rotate_left
                        · simp only [kZ, Act.put, List.setIfInBounds_toArray, List.set_cons_zero, List.set_cons_succ]
                          rfl
                        refine one_ (i := 18) (N := none) #[true, true, true, true, true, true, true, true, true, true, true, true, true, true, true, true, true, true, true, false] rfl rfl (jS HT_.out (by kernel_rfl)) (by decide) (fun K hK => ?_)
                        have hs39 : w38.cell? ⟨gb145, 0, none⟩ = some (.int .u32 0) := (iH BK145.out 0).trans rfl
                        have hfs39 := iI BK145.out 0
                        have hns39_0 := NB131_145.out
                        have hns39_1 := NB136_145.out
                        have hms39_0 := NB145_131.out
                        have hms39_1 := NB145_136.out
                        have hs41 : w38.cell? ⟨gb145, 1, none⟩ = some (.slice none 0 0) := (iH BK145.out 1).trans rfl
                        have hfs41 := iI BK145.out 1
                        have hns41_0 := NB131_145.out
                        have hns41_1 := NB136_145.out
                        have hms41_0 := NB145_131.out
                        have hms41_1 := NB145_136.out
                        refine I9 (w1 := ?_) (by rfl) rfl ?_ ?_
                        rotate_left
                        · go_simp
                          rfl
                        refine hK.out _ _ ⟨((cell_far (p := ⟨gb145, _, none⟩) NB136_145.out _).trans (((cell_far (p := ⟨gb145, _, none⟩) NB136_145.out _).trans (hHeld.1)))), ((cell_far (p := ⟨gb145, _, none⟩) NB136_145.out _).trans (((cell_far (p := ⟨gb145, _, none⟩) NB136_145.out _).trans (hHeld.2.1)))), ((cell_far (p := ⟨gb145, _, none⟩) (by first | exact Nat.ne_of_lt (Nat.lt_of_lt_of_le (by have := World.block_lt_of_cell? _ _ hw139_0; first | rwa [add_block] at this | exact this) GW145.out) | (rw [add_block]; exact Nat.ne_of_lt (Nat.lt_of_lt_of_le (by have := World.block_lt_of_cell? _ _ hw139_0; first | rwa [add_block] at this | exact this) GW145.out)) | (show (Addr.add _ _).block ≠ _; rw [add_block]; exact Nat.ne_of_lt (Nat.lt_of_lt_of_le (by have := World.block_lt_of_cell? _ _ hw139_0; first | rwa [add_block] at this | exact this) GW145.out)) | (dsimp only; exact Nat.ne_of_lt (Nat.lt_of_lt_of_le (by have := World.block_lt_of_cell? _ _ hw139_0; first | rwa [add_block] at this | exact this) GW145.out))) _).trans (((cell_far (p := ⟨gb145, _, none⟩) (by first | exact Nat.ne_of_lt (Nat.lt_of_lt_of_le (by have := World.block_lt_of_cell? _ _ hw139_0; first | rwa [add_block] at this | exact this) GW145.out) | (rw [add_block]; exact Nat.ne_of_lt (Nat.lt_of_lt_of_le (by have := World.block_lt_of_cell? _ _ hw139_0; first | rwa [add_block] at this | exact this) GW145.out)) | (show (Addr.add _ _).block ≠ _; rw [add_block]; exact Nat.ne_of_lt (Nat.lt_of_lt_of_le (by have := World.block_lt_of_cell? _ _ hw139_0; first | rwa [add_block] at this | exact this) GW145.out)) | (dsimp only; exact Nat.ne_of_lt (Nat.lt_of_lt_of_le (by have := World.block_lt_of_cell? _ _ hw139_0; first | rwa [add_block] at this | exact this) GW145.out))) _).trans (hHeld.2.2.1)))), ((cell_far (p := ⟨gb145, _, none⟩) (by first | exact Nat.ne_of_lt (Nat.lt_of_lt_of_le (by have := World.block_lt_of_cell? _ _ hw139_1; first | rwa [add_block] at this | exact this) GW145.out) | (rw [add_block]; exact Nat.ne_of_lt (Nat.lt_of_lt_of_le (by have := World.block_lt_of_cell? _ _ hw139_1; first | rwa [add_block] at this | exact this) GW145.out)) | (show (Addr.add _ _).block ≠ _; rw [add_block]; exact Nat.ne_of_lt (Nat.lt_of_lt_of_le (by have := World.block_lt_of_cell? _ _ hw139_1; first | rwa [add_block] at this | exact this) GW145.out)) | (dsimp only; exact Nat.ne_of_lt (Nat.lt_of_lt_of_le (by have := World.block_lt_of_cell? _ _ hw139_1; first | rwa [add_block] at this | exact this) GW145.out))) _).trans (((cell_far (p := ⟨gb145, _, none⟩) (by first | exact Nat.ne_of_lt (Nat.lt_of_lt_of_le (by have := World.block_lt_of_cell? _ _ hw139_1; first | rwa [add_block] at this | exact this) GW145.out) | (rw [add_block]; exact Nat.ne_of_lt (Nat.lt_of_lt_of_le (by have := World.block_lt_of_cell? _ _ hw139_1; first | rwa [add_block] at this | exact this) GW145.out)) | (show (Addr.add _ _).block ≠ _; rw [add_block]; exact Nat.ne_of_lt (Nat.lt_of_lt_of_le (by have := World.block_lt_of_cell? _ _ hw139_1; first | rwa [add_block] at this | exact this) GW145.out)) | (dsimp only; exact Nat.ne_of_lt (Nat.lt_of_lt_of_le (by have := World.block_lt_of_cell? _ _ hw139_1; first | rwa [add_block] at this | exact this) GW145.out))) _).trans (hHeld.2.2.2.1)))), ((cell_far (p := ⟨gb145, _, none⟩) (by first | exact Nat.ne_of_lt (Nat.lt_of_lt_of_le (by have := World.block_lt_of_cell? _ _ hw139_2; first | rwa [add_block] at this | exact this) GW145.out) | (rw [add_block]; exact Nat.ne_of_lt (Nat.lt_of_lt_of_le (by have := World.block_lt_of_cell? _ _ hw139_2; first | rwa [add_block] at this | exact this) GW145.out)) | (show (Addr.add _ _).block ≠ _; rw [add_block]; exact Nat.ne_of_lt (Nat.lt_of_lt_of_le (by have := World.block_lt_of_cell? _ _ hw139_2; first | rwa [add_block] at this | exact this) GW145.out)) | (dsimp only; exact Nat.ne_of_lt (Nat.lt_of_lt_of_le (by have := World.block_lt_of_cell? _ _ hw139_2; first | rwa [add_block] at this | exact this) GW145.out))) _).trans (((cell_far (p := ⟨gb145, _, none⟩) (by first | exact Nat.ne_of_lt (Nat.lt_of_lt_of_le (by have := World.block_lt_of_cell? _ _ hw139_2; first | rwa [add_block] at this | exact this) GW145.out) | (rw [add_block]; exact Nat.ne_of_lt (Nat.lt_of_lt_of_le (by have := World.block_lt_of_cell? _ _ hw139_2; first | rwa [add_block] at this | exact this) GW145.out)) | (show (Addr.add _ _).block ≠ _; rw [add_block]; exact Nat.ne_of_lt (Nat.lt_of_lt_of_le (by have := World.block_lt_of_cell? _ _ hw139_2; first | rwa [add_block] at this | exact this) GW145.out)) | (dsimp only; exact Nat.ne_of_lt (Nat.lt_of_lt_of_le (by have := World.block_lt_of_cell? _ _ hw139_2; first | rwa [add_block] at this | exact this) GW145.out))) _).trans (hHeld.2.2.2.2))))⟩ (fun hHeld => ?_)
                        clear hK K
                        refine jA (i := 19) (N := some 12) (v := ?_) (a' := ?_) #[true, true, true, true, true, true, true, true, true, true, true, true, true, true, true, true, true, true, true, true] rfl rfl (iQ HT_.out (by kernel_rfl)) (fun _ _ _ h => h) (Or.inl ⟨by rfl, ?_⟩) ?_ ?_
                        rotate_left
                        · intro w'
                          go_simp
                          with_reducible rfl
                        rotate_left
                        · simp only [Act.put, List.setIfInBounds_toArray, List.set_cons_zero, List.set_cons_succ, iR, iT]
                          rfl
                        refine lT (kH HT_.out (by kernel_rfl)) ?_
                        try go_wp2
                        go_roundg kj10
                        case measure => have := HK1.out; have := HJ10.out; omega
                        case rel => exact ⟨(wrap64 (x8_1 + 1)), (x137000_1), (x137001_1), (.slice Ao34 x137001_1.length co34), (by first | rfl | (simp; done) | (simp [*]; done)), H', ⟨by have := HK1.out; have := HJ10.out; omega⟩, ⟨by (with_reducible repeat (first | apply Kd.R_alloc | apply Kd.R_drewN | apply Kd.R_drew)); exact Kd.R_mono (Kd.R_far (p := ⟨gb145, 1, none⟩) (Kd.R_far (p := ⟨gb145, 0, none⟩) (Kd.R_types HO_137001.out BK145.out (by decide)) (fun _ hk => hk.2) (.int .u32 t140)) (fun _ hk => hk.2) (.slice Ao40 t141.length co40)) (fun _ hk => trivial)⟩, ⟨by (with_reducible repeat (first | refine iL ?_ _ | refine iO ?_ | refine iK ?_ _)); refine jI ?_ NB131_145.out _; (with_reducible repeat (first | refine iL ?_ _ | refine iO ?_ | refine iK ?_ _)); refine jI ?_ NB131_145.out _; (with_reducible repeat (first | refine iL ?_ _ | refine iO ?_ | refine iK ?_ _)); exact BK131.out⟩, ⟨by (with_reducible repeat (first | refine iL ?_ _ | refine iO ?_ | refine iK ?_ _)); refine jI ?_ NB136_145.out _; (with_reducible repeat (first | refine iL ?_ _ | refine iO ?_ | refine iK ?_ _)); refine jI ?_ NB136_145.out _; (with_reducible repeat (first | refine iL ?_ _ | refine iO ?_ | refine iK ?_ _)); exact BK136.out⟩, ⟨by repeat (first | (with_reducible first | exact HB.out | apply iG | apply iD | apply iF | refine iE ?_ GE131.out | refine iE ?_ GE136.out | refine iE ?_ GE145.out) | exact HB.out)⟩⟩
              · rw [if_neg c15] at H
                exact absurd H (by simp)
            · rw [if_neg c14] at H
              exact absurd H (by simp)
          · replace c13 := Bool.eq_false_iff.mpr c13
            subst c13
            have H1 : (some (x137000_1, x137001_1)) = some (r1, r2) := by rw [if_neg (show ¬ (false = true) by decide)] at H; exact H
            clear H
            have H := H1
            clear H1
            simp only [Option.some.injEq, Prod.mk.injEq] at H
            obtain ⟨rfl, rfl⟩ := H
            have hnb42 := NB136_131.out
            have hnc42 := NB131_136.out
            have hcz43_0 : wc.cell? ⟨gb136, 0, none⟩ = some (.int .u32 x137000_1) := (iH BK136.out 0).trans rfl
            have hcz43_1 : wc.cell? ⟨gb136, 1, none⟩ = some (u137001) := (iH BK136.out 1).trans rfl
            have hfz43_0 := iI BK136.out 0
            have hfz43_1 := iI BK136.out 1
            have hcz44_0 : wc.cell? ⟨gb131, 0, none⟩ = some (.int .u32 0) := (iH BK131.out 0).trans rfl
            have hcz44_1 : wc.cell? ⟨gb131, 1, none⟩ = some (.slice none 0 0) := (iH BK131.out 1).trans rfl
            have hfz44_0 := iI BK131.out 0
            have hfz44_1 := iI BK131.out 1
            obtain ⟨Ao45, co45, eo45⟩ := Kd.R_slice HO_137001.out
            subst eo45
            go_wp2
            refine bodyPost_ret (results_cell_row rfl _ _ gb131 42 #[.int .u32 x137000_1, .slice Ao45 x137001_1.length co45] (0, 0) _ rfl (by (with_reducible repeat (first | refine iL ?_ _ | refine iO ?_ | refine iK ?_ _)); refine jC (cs := #[.int .u32 x137000_1, .slice none 0 0]) ?_ 1 _ rfl; (with_reducible repeat (first | refine iL ?_ _ | refine iO ?_ | refine iK ?_ _)); refine jC (cs := #[.int .u32 0, .slice none 0 0]) ?_ 0 _ rfl; (with_reducible repeat (first | refine iL ?_ _ | refine iO ?_ | refine iK ?_ _)); exact BK131.out) Try.underlying42 rfl (by kernel_rfl)) rfl ?_
            exact ⟨_, by first | rfl | (simp [iU, iV] <;> rfl) | (simp [*, iU, iV] <;> rfl), by (with_reducible repeat (first | apply Kd.R_alloc | apply Kd.R_drewN | apply Kd.R_drew)); exact Kd.R_mono (Kd.R_far (p := ⟨gb131, 1, none⟩) (Kd.R_far (p := ⟨gb131, 0, none⟩) (Kd.R_types HO_137001.out BK131.out (by decide)) (fun _ hk => hk.2) (.int .u32 x137000_1)) (fun _ hk => hk.2) (.slice Ao45 x137001_1.length co45)) (fun _ hk => trivial), by repeat (first | (with_reducible first | exact HB.out | apply iG | apply iD | apply iF | refine iE ?_ GE131.out | refine iE ?_ GE136.out) | exact HB.out)⟩
end Go.Proofs.Ytjppookmjdaplaa.K
end

section
namespace Go.Proofs.Ytjppookmjdaplaa.K
open Go Go.RowKit Go.Proofs.YtjppookmjdaplaaW.PrintWords Go.Proofs.YtjppookmjdaplaaW.PrintLast Go.Proofs.YtjppookmjdaplaaW.PrintMore
abbrev TCu := S91
/-- A choice is of its kind. -/
def xR (x : TCu) : Prop := (0 ≤ x.f0 ∧ x.f0 < 65536) ∧ (0 ≤ x.f1 ∧ x.f1 < 65536) ∧ (0 ≤ x.f2 ∧ x.f2 < 256)
theorem o9 (x : Int) (h0 : 0 ≤ x) (h1 : x < 9223372036854775808) : wrap64 x = x := by unfold wrap64; omega
theorem vG (x n : Int) (h0 : 0 ≤ x) (h1 : 0 < n) : 0 ≤ Int.tmod x n ∧ Int.tmod x n < n := by
  rw [Int.tmod_eq_emod_of_nonneg h0]
  exact ⟨Int.emod_nonneg _ (by omega), Int.emod_lt_of_pos _ h1⟩
/-- A range of a map. -/
structure Rng (n fr tt : Int) : Prop where
  lo : 0 ≤ fr
  lt : fr < tt
  hi : tt ≤ n
theorem zC (n x y : Int) (hn : 1 ≤ n) (hn2 : n ≤ 10000) (hx : 0 ≤ x ∧ x < 65536) (hy : 0 ≤ y ∧ y < 65536) :
    wrap64 (n - Int.tmod (wrap64 x) n) ≠ 0 ∧ Rng n (Int.tmod (wrap64 x) n) (wrap64 (wrap64 (Int.tmod (wrap64 x) n + 1) + Int.tmod (wrap64 y) (wrap64 (n - Int.tmod (wrap64 x) n)))) := by
  rw [o9 x hx.1 (by omega), o9 y hy.1 (by omega)]
  have h1 := vG x n hx.1 (by omega)
  generalize Int.tmod x n = a at h1
  rw [o9 (n - a) (by omega) (by omega), o9 (a + 1) (by omega) (by omega)]
  have h2 := vG y (n - a) hy.1 (by omega)
  generalize Int.tmod y (n - a) = b at h2
  rw [o9 (a + 1 + b) (by omega) (by omega)]
  exact ⟨by omega, ⟨by omega, by omega, by omega⟩⟩
theorem xY (l : List TCu) (i : Nat) (h : i < l.length) : jG l (i : Int) = l[i] := by
  show l.getD (i : Int).toNat _ = _
  rw [Int.toNat_natCast, List.getD_eq_getElem?_getD, List.getElem?_eq_getElem h]; rfl
theorem yI (n : Nat) (nodes : Int) (hn : 1 ≤ n) (hn2 : n ≤ 10000) (hm : 1 ≤ nodes) (hm2 : nodes ≤ 6) (cs : List TCu) (hcs : ∀ x ∈ cs, xR x) :
    ∀ (j i k : Nat) (a : Int) (L : List TSp), i + j = 30 → 20200 + 2 * j < k → 0 ≤ a → a < 4294967296 → Snd L n nodes →
      ∃ a' L', stratumlaw12_Of.l0 k n nodes cs i a L = some (a', L') ∧ (0 ≤ a' ∧ a' < 4294967296) ∧ Snd L' n nodes
  | j, i, 0, _, _, _, h, _, _, _ => by omega
  | j, i, 1, _, _, _, h, _, _, _ => by omega
  | 0, i, k + 2, a, L, hi, hk, h0, h1, hL => by
    refine ⟨a, L, ?_, ⟨h0, h1⟩, hL⟩
    have hj : ∀ b, b = false → stratumlaw12_Of.j1 (k + 1) n nodes cs i b a L = some (a, L) := fun b hb => by rw [stratumlaw12_Of.j1, hb, if_neg (by decide)]
    rw [stratumlaw12_Of.l0]
    split
    · exact hj _ (decide_eq_false (by omega))
    · exact hj _ rfl
  | j + 1, i, k + 2, a, L, hi, hk, h0, h1, hL => by
    rw [stratumlaw12_Of.l0]
    by_cases hlt : i < cs.length
    · have hx := hcs cs[i] (List.getElem_mem hlt)
      have hw : wrap64 ((i : Int) + 1) = ((i + 1 : Nat) : Int) := by unfold wrap64; omega
      obtain ⟨hr0, hr⟩ := zC n cs[i].f0 cs[i].f1 (by omega) (by omega) hx.1 hx.2.1
      have ht := vG (wrap64 cs[i].f2) nodes (by rw [o9 _ hx.2.2.1 (by have := hx.2.2.2; omega)]; exact hx.2.2.1) (by omega)
      have hmn : mn nodes 6 = nodes := by unfold mn; split <;> omega
      rw [if_pos (by omega), stratumlaw12_Of.j1, decide_eq_true (by omega : (i : Int) < 30), if_pos rfl, if_pos (by omega), if_pos (by omega), if_neg (by omega), xY cs i hlt, if_neg hr0, if_neg (by omega), xG k a L n nodes _ _ _ (by have := hL.len; omega) (by have := hL.len; omega), hw]
      simp only [Option.bind_some]
      rcases pK a hL hr.lo hr.lt hr.hi ht.1 (by rw [hmn]; exact ht.2) (by omega) with ⟨he, _⟩ | ⟨_, ⟨he, _⟩ | ⟨he, hs⟩⟩
      · rw [he]
        rw [if_neg (by decide)]
        exact yI n nodes hn hn2 hm hm2 cs hcs j (i + 1) k a L (by omega) (by omega) h0 h1 hL
      · rw [he]
        rw [if_neg (by decide)]
        exact yI n nodes hn hn2 hm hm2 cs hcs j (i + 1) k a L (by omega) (by omega) h0 h1 hL
      · rw [he]
        rw [if_pos rfl]
        exact yI n nodes hn hn2 hm hm2 cs hcs j (i + 1) k _ _ (by omega) (by omega) (Int.emod_nonneg _ (by decide)) (Int.emod_lt_of_pos _ (by decide)) hs
    · rw [if_neg (by omega), stratumlaw12_Of.j1, if_neg (by decide)]
      exact ⟨a, L, rfl, ⟨h0, h1⟩, hL⟩
theorem IZ (n : Nat) (nodes : Int) (hn : 1 ≤ n) (hn2 : n ≤ 10000) (hm : 1 ≤ nodes) (hm2 : nodes ≤ 6) (cs : List TCu) (hcs : ∀ x ∈ cs, xR x) (k : Nat) (hk : 20300 < k) :
    ∃ a L, stratumlaw12_Of.f k n nodes cs = some (a, L) ∧ (0 ≤ a ∧ a < 4294967296) ∧ Snd L n nodes :=
  yI n nodes hn hn2 hm hm2 cs hcs 30 0 k 1 [⟨0, 0⟩] (by omega) (by omega) (by decide) (by decide) (I4 n nodes (by omega) hm)
end Go.Proofs.Ytjppookmjdaplaa.K
end

section
namespace Go.Proofs.Ytjppookmjdaplaa.K
open Go.RowKit Go.Proofs.YtjppookmjdaplaaW.PrintWords Go.Proofs.YtjppookmjdaplaaW.PrintLast Go.Proofs.YtjppookmjdaplaaW.PrintMore
attribute [local go_sem] jQ jP jX jW
def stratumref07_Put.l0 : Nat → List Int → Int → Int → Option (List Int)
  | 0, _, _, _ => none
  | k + 1, x0, x1, x7 => if x7 ≥ 0 then (if 0 ≤ (IntKind.u64.wrap (8 * (IntKind.u64.wrap (x7)))) then (if x0.length < 140737488355328 then (stratumref07_Put.l0 k (x0 ++ [(shr .u64 x1 (IntKind.u64.wrap (8 * (IntKind.u64.wrap (x7))))) % 256]) x1 (wrap64 (x7 - 1))) else (none)) else (none)) else (some x0)
def stratumref07_Put.f (k : Nat) (l0 : List Int) (a1 : Int) (a2 : Int) : Option (List Int) := stratumref07_Put.l0 k l0 a1 (wrap64 (a2 - 1))
set_option maxHeartbeats 8000000 in
set_option maxRecDepth 100000 in
theorem stratumref07_Put.calls (k : Nat) (P0_ : Nat → Prop) (u9000_ : Value) (l0 : List Int) (a1 : Int) (a2 : Int) (r : List Int) (w0 w : World) (hB : Below w0.heap.size w0 w) (ho0 : Kd.R (Kd.int .u8) 5 w w0.heap.size P0_ u9000_ l0) (h : stratumref07_Put.f k l0 a1 a2 = some r) :
    Calls Try.prog 76 #[u9000_, .int .u64 a1, .int .i64 a2] w fun e w' => ∃ v0_ : Value, e = .returned (v0_) ∧ Kd.R (Kd.int .u8) 5 w' w0.heap.size (fun k_ => (P0_ k_ ∨ w.heap.size ≤ k_)) v0_ r ∧ Below w0.heap.size w0 w' ∧ Kept w w' (fun k_ => P0_ k_) := by
  have HO0 := iC.mk (show Kd.R (Kd.int .u8) 5 w w0.heap.size (fun k_ => (P0_ k_ ∨ w.heap.size ≤ k_)) u9000_ l0 from Kd.R_mono ho0 (fun k_ hk => (.inl hk)))
  have HK := iC.mk (Kept.refl w (fun k_ => P0_ k_))
  have HW0 := iC.mk hB.size
  have HB := iC.mk hB
  clear hB
  have H : (stratumref07_Put.l0 k l0 a1 (wrap64 (a2 - 1))) = some r := h
  clear h
  have H' := iC.mk H
  clear H
  go_enter Try.func76, Try.ntmps76
  go_wp2
  go_loopg [0, 7] k (fun kq v0 v7 w' => ∃ (x0_1 : List Int) (x7_1 : Int), v7 = .int .i64 x7_1 ∧ iC (stratumref07_Put.l0 kq x0_1 a1 x7_1 = some r) ∧ iC (kq ≤ k) ∧ iC (Kd.R (Kd.int .u8) 5 w' w0.heap.size (fun k_ => (P0_ k_ ∨ w.heap.size ≤ k_)) v0 x0_1) ∧ iC (Kept w w' (fun k_ => P0_ k_)) ∧ iC (Below w0.heap.size w0 w'))
  case atStart => exact ⟨(l0), (wrap64 (a2 - 1)), (by first | rfl | (simp; done) | (simp [*]; done)), H', ⟨Nat.le_refl _⟩, ⟨by (with_reducible repeat (first | apply Kd.R_alloc | apply Kd.R_drewN | apply Kd.R_drew)); exact HO0.out⟩, ⟨by repeat (first | (with_reducible first | exact HK.out | apply Kept.alloc | apply Kept.drewN | apply Kept.drew) | exact HK.out)⟩, ⟨hb_⟩⟩
  case round =>
    clear H'
    try clear p2
    obtain ⟨x0_1, x7_1, rfl, HA, HK1, HO_0, HK, HB⟩ := hrel
    cases gk with
    | zero => exact absurd HA.out (by simp [stratumref07_Put.l0])
    | succ k1 =>
      have H := HA.out
      clear HA
      simp only [stratumref07_Put.l0] at H
      by_cases c4 : x7_1 ≥ 0
      · rw [if_pos c4] at H
        have c4b0 : decide (0 ≤ x7_1) = true := decide_eq_true c4
        clear c4
        obtain ⟨ji5, hji5⟩ : ∃ j_ : Int, (IntKind.u64.wrap (8 * (IntKind.u64.wrap (x7_1)))) = j_ := ⟨_, rfl⟩
        replace H : (if 0 ≤ (ji5) then (if x0_1.length < 140737488355328 then (stratumref07_Put.l0 k1 (x0_1 ++ [(shr .u64 a1 (ji5)) % 256]) a1 (wrap64 (x7_1 - 1))) else (none)) else (none)) = some r := by first | (rw [hji5] at H; exact H) | (simp only [hji5] at H ⊢; exact H)
        by_cases c6 : 0 ≤ (ji5)
        · rw [if_pos c6] at H
          have c6b0 := eq_true c6
          have c6b1 : decide (0 ≤ (ji5)) = true := decide_eq_true c6
          clear c6
          obtain ⟨ji7, hji7⟩ : ∃ j_ : Int, (shr .u64 a1 (ji5)) = j_ := ⟨_, rfl⟩
          replace H : (if x0_1.length < 140737488355328 then (stratumref07_Put.l0 k1 (x0_1 ++ [(ji7) % 256]) a1 (wrap64 (x7_1 - 1))) else (none)) = some r := by first | (rw [hji7] at H; exact H) | (simp only [hji7] at H ⊢; exact H)
          have hji7_ : (a1 / 2 ^ min (ji5).toNat 64) = ji7 := hji7
          have hji7z : (ji5) ≤ 64 → (a1 / 2 ^ (ji5).toNat) = ji7 := vV hji7
          by_cases c8 : x0_1.length < 140737488355328
          · rw [if_pos c8] at H
            have LMc8 := iC.mk c8
            clear c8
            obtain ⟨y351, hy351⟩ : ∃ y_ : List Int, y_ = (x0_1 ++ [(ji7) % 256]) := ⟨_, rfl⟩
            replace H : (stratumref07_Put.l0 k1 y351 a1 (wrap64 (x7_1 - 1))) = some r := by first | (rw [hy351]; with_reducible exact H) | (have H2_ := (Option.bind_some _ _).symm.trans H; rw [hy351]; with_reducible exact H2_) | (have H2_ := (Option.bind_some _ _).symm.trans H; with_reducible exact H2_) | with_reducible exact H | (rw [hy351]; exact H) | exact H
            have Ny351 := iC.mk hy351
            clear hy351
            have H' := iC.mk H
            clear H
            go_wp2_with (first | ((with_reducible refine jR (b := .append) (xs := #[.tmp 14, .tmp 21]) rfl ?_); at_builtin; refine Kd.R_append (Kd.int .u8) (w0 := w0) w0.heap.size rfl (.tmp 14) (.tmp 21) 22 5 (.int .u8 0) 1 rfl Try.underlying22 info5 rfl (by decide) (by omega) u0 x0_1 ((ji7) % 256) [.int .u8 ((ji7) % 256)] (fun k_ => (P0_ k_ ∨ w.heap.size ≤ k_)) (fun _ => False) rfl rfl ?aP (fun _ hk => hk.elim) ?aF ?aO ?aB ?aS ?aL ?_; (case aP => exact rfl); (case aB => exact hb_); (case aF => exact (fun k_ hk => (.inr (Nat.le_trans (by first | exact HK.out.1 | exact (show Kept w _ (fun k_ => P0_ k_) from by repeat (first | (with_reducible first | exact HK.out | apply Kept.alloc | apply Kept.drewN | apply Kept.drew) | exact HK.out)).1) hk)))); (case aO => exact (by (with_reducible repeat (first | apply Kd.R_alloc | apply Kd.R_drewN | apply Kd.R_drew)); exact HO_0.out)); (case aS => exact (iJ hb_)); (case aL => have := LMc8.out; omega); intro v352 w9 ho hb hg hat; rw [← Ny351.out] at ho; have n0_ := iC.mk (hb); have n1_ := iC.mk (Kept.of_grown (S := (fun k_ => P0_ k_)) hg (by repeat (first | (with_reducible first | exact HK.out | apply Kept.alloc | apply Kept.drewN | apply Kept.drew) | exact HK.out)) (fun k_ e_ => (HO_0.out.1 k_ e_))); have n2_ := iC.mk (ho); clear HB; clear HK; clear HO_0; have HB := n0_; have HK := n1_; have HO353 := n2_; clear n0_ n1_ n2_; clear ho hb hg hat))
            go_roundg k1
            case measure => have := HK1.out; omega
            case rel => exact ⟨(y351), (wrap64 (x7_1 - 1)), (by first | rfl | (simp; done) | (simp [*]; done)), H', ⟨by have := HK1.out; omega⟩, ⟨by (with_reducible repeat (first | apply Kd.R_alloc | apply Kd.R_drewN | apply Kd.R_drew)); exact HO353.out⟩, ⟨by repeat (first | (with_reducible first | exact HK.out | apply Kept.alloc | apply Kept.drewN | apply Kept.drew) | exact HK.out)⟩, ⟨hb_⟩⟩
          · rw [if_neg c8] at H
            exact absurd H (by simp)
        · rw [if_neg c6] at H
          exact absurd H (by simp)
      · rw [if_neg c4] at H
        have c4b0 : decide (0 ≤ x7_1) = false := decide_eq_false c4
        clear c4
        obtain rfl := Option.some.inj H
        go_wp2
        go_ret
        exact ⟨_, by first | rfl | (simp [iU, iV] <;> rfl) | (simp [*, iU, iV] <;> rfl), by (with_reducible repeat (first | apply Kd.R_alloc | apply Kd.R_drewN | apply Kd.R_drew)); exact HO_0.out, hb_, by repeat (first | (with_reducible first | exact HK.out | apply Kept.alloc | apply Kept.drewN | apply Kept.drew) | exact HK.out)⟩
end Go.Proofs.Ytjppookmjdaplaa.K
end

section
namespace Go.Proofs.Ytjppookmjdaplaa.K
open Go.RowKit Go.Proofs.YtjppookmjdaplaaW.PrintWords Go.Proofs.YtjppookmjdaplaaW.PrintLast Go.Proofs.YtjppookmjdaplaaW.PrintMore
attribute [local go_sem] jQ jP jX jW
mutual
def stratumref07_Facts.l0 : Nat → List Int → List (S103) → Int → Option (List Int)
  | 0, _, _, _ => none
  | k + 1, x0, x1, x5 => if x5 < (x1.length : Int) then (if 0 ≤ x5 then ((stratumref07_Put.f k x0 (IntKind.u64.wrap ((((iW x1 x5).f0).length : Int))) 1).bind fun t358 => (stratumref07_Facts.l1 k t358 x1 x5 0)) else (none)) else (some x0)
def stratumref07_Facts.l1 : Nat → List Int → List (S103) → Int → Int → Option (List Int)
  | 0, _, _, _, _ => none
  | k + 1, x0, x1, x5, x6 => if 0 ≤ x5 then (if x5 < (x1.length : Int) then (if x6 < (((iW x1 x5).f0).length : Int) then (if 0 ≤ x6 then ((stratumref07_Put.f k x0 (IntKind.u64.wrap (rd ((iW x1 x5).f0) x6)) 4).bind fun t364 => (stratumref07_Facts.l1 k t364 x1 x5 (wrap64 (x6 + 1)))) else (none)) else ((stratumref07_Put.f k x0 (IntKind.u64.wrap ((iW x1 x5).f1)) 8).bind fun t368 => (stratumref07_Facts.l0 k t368 x1 (wrap64 (x5 + 1))))) else (none)) else (none)
end
def stratumref07_Facts.f (k : Nat) (l0 : List Int) (l1 : List (S103)) : Option (List Int) := (stratumref07_Put.f k l0 (IntKind.u64.wrap ((l1.length : Int))) 4).bind fun t354 => (stratumref07_Facts.l0 k t354 l1 0)
set_option maxHeartbeats 8000000 in
set_option maxRecDepth 100000 in
theorem stratumref07_Facts.calls (k : Nat) (P0_ : Nat → Prop) (u9000_ : Value) (l0 : List Int) (A1 : Option Addr) (c1 : Nat) (l1 : List (S103)) (r : List Int) (w0 w : World) (hB : Below w0.heap.size w0 w) (ho0 : Kd.R (Kd.int .u8) 5 w w0.heap.size P0_ u9000_ l0) (hr1 : ∀ W_, Kept w W_ (fun k_ => P0_ k_) → Kd.C k103 W_ A1 l1.length l1) (hc1 : l1.length ≤ c1) (h : stratumref07_Facts.f k l0 l1 = some r) :
    Calls Try.prog 54 #[u9000_, .slice A1 l1.length c1] w fun e w' => ∃ v0_ : Value, e = .returned (v0_) ∧ Kd.R (Kd.int .u8) 5 w' w0.heap.size (fun k_ => (P0_ k_ ∨ w.heap.size ≤ k_)) v0_ r ∧ Below w0.heap.size w0 w' ∧ Kept w w' (fun k_ => P0_ k_) := by
  have HO0 := iC.mk (show Kd.R (Kd.int .u8) 5 w w0.heap.size (fun k_ => (P0_ k_ ∨ w.heap.size ≤ k_)) u9000_ l0 from Kd.R_mono ho0 (fun k_ hk => (.inl hk)))
  have HR1 := iC.mk hr1
  have HC1 := iC.mk hc1
  clear hr1 hc1
  have HK := iC.mk (Kept.refl w (fun k_ => P0_ k_))
  have HW0 := iC.mk hB.size
  have HB := iC.mk hB
  clear hB
  have H : ((stratumref07_Put.f k l0 (IntKind.u64.wrap ((l1.length : Int))) 4).bind fun t354 => (stratumref07_Facts.l0 k t354 l1 0)) = some r := h
  clear h
  replace H := Option.bind_eq_some_iff.mp H
  obtain ⟨t354, A30, H⟩ := H
  replace H : (stratumref07_Facts.l0 k t354 l1 0) = some r := H
  have A3 := iC.mk A30
  clear A30
  have H' := iC.mk H
  clear H
  obtain ⟨Ao4, co4, eo4⟩ := Kd.R_slice HO0.out
  subst eo4
  go_enter Try.func54, Try.ntmps54
  go_wp2_with (first | ((with_reducible refine iZ (f := 76) rfl ?_); refine jJ (some 11) rfl rfl Try.func76 (by kernel_rfl) rfl #[.slice Ao4 l0.length co4, .int .u64 (IntKind.u64.wrap ((l1.length : Int))), .int .i64 4] rfl (by (try simp only [List.map_toArray, List.map_cons, List.map_nil]); first | done | rfl | (simp only [List.length_drop, List.length_take]; rfl)) ?_; (with_reducible refine (stratumref07_Put.calls k (fun k_ => some k_ = (.slice Ao4 l0.length co4 : Value).ownBlock) (.slice Ao4 l0.length co4) l0 (IntKind.u64.wrap ((l1.length : Int))) 4 t354 w0 _ ?side1 ?side2 A3.out).mono ?_); (case side1 => repeat (first | (with_reducible first | exact HB.out | apply iG | apply iD | apply iF) | exact HB.out)); (case side2 => exact Kd.R_tight rfl HO0.out); rintro e w5 ⟨v355, rfl, ho0, hb, hkp⟩; refine ⟨_, rfl, ?_⟩; have n0_ := iC.mk (Kd.R_mono (ok' := fun k_ => (P0_ k_ ∨ w.heap.size ≤ k_)) ho0 (fun k_ hk_ => Or.elim hk_ (fun hs_ => (HO0.out.1 k_ (hs_).symm)) (fun hn_ => (.inr (Nat.le_trans (by first | exact HK.out.1 | exact (show Kept w _ (fun k_ => P0_ k_) from by repeat (first | (with_reducible first | exact HK.out | apply Kept.alloc | apply Kept.drewN | apply Kept.drew) | exact HK.out)).1) hn_))))); have n1_ := iC.mk (Kept.then_ (S := (fun k_ => P0_ k_)) (by repeat (first | (with_reducible first | exact HK.out | apply Kept.alloc | apply Kept.drewN | apply Kept.drew) | exact HK.out)) hkp (fun k_ hs_ => (fun e_ => (HO0.out.1 k_ e_.symm)) hs_)); have n2_ := iC.mk (hb); clear HK; clear HB; clear HO0; have HO356 := n0_; have HK := n1_; have HB := n2_; clear n0_ n1_ n2_; (try clear hb); (try clear hkp); (try clear ho0)))
  go_loopg [0, 5] k (fun kq v0 v5 w' => ∃ (x0_1 : List Int) (x5_1 : Int), v5 = .int .i64 x5_1 ∧ iC (stratumref07_Facts.l0 kq x0_1 l1 x5_1 = some r) ∧ iC (kq ≤ k) ∧ iC (Kd.R (Kd.int .u8) 5 w' w0.heap.size (fun k_ => (P0_ k_ ∨ w.heap.size ≤ k_)) v0 x0_1) ∧ iC (Kept w w' (fun k_ => P0_ k_)) ∧ iC (Below w0.heap.size w0 w'))
  case atStart => exact ⟨(t354), (0), (by first | rfl | (simp; done) | (simp [*]; done)), H', ⟨Nat.le_refl _⟩, ⟨by (with_reducible repeat (first | apply Kd.R_alloc | apply Kd.R_drewN | apply Kd.R_drew)); exact HO356.out⟩, ⟨by repeat (first | (with_reducible first | exact HK.out | apply Kept.alloc | apply Kept.drewN | apply Kept.drew) | exact HK.out)⟩, ⟨hb_⟩⟩
  case round =>
    clear H'
    try clear c1
    try clear p2
    try clear c5
    obtain ⟨x0_1, x5_1, rfl, HA, HK1, HO_0, HK, HB⟩ := hrel
    cases gk with
    | zero => exact absurd HA.out (by simp [stratumref07_Facts.l0])
    | succ k1 =>
      have H := HA.out
      clear HA
      simp only [stratumref07_Facts.l0] at H
      by_cases c6 : x5_1 < (l1.length : Int)
      · rw [if_pos c6] at H
        have c6b0 : decide (x5_1 < (l1.length : Int)) = true := decide_eq_true c6
        clear c6
        by_cases c7 : 0 ≤ x5_1
        · rw [if_pos c7] at H
          have c7b0 : decide (0 ≤ x5_1) = true := decide_eq_true c7
          clear c7
          replace H := Option.bind_eq_some_iff.mp H
          obtain ⟨t358, A80, H⟩ := H
          replace H : (stratumref07_Facts.l1 k1 t358 l1 x5_1 0) = some r := H
          have A8 := iC.mk A80
          clear A80
          have H' := iC.mk H
          clear H
          have p357 : 0 ≤ (x5_1 : Int) := of_decide_eq_true asm_
          have q357 : x5_1 < (l1.length : Int) := of_decide_eq_true asm_
          obtain ⟨ad357, A357_0, c357_0, e357, hx357_0, hx357_1, hl357_0, hi357_0⟩ := kN (Kd.C_kept_now HR1.out HK.out) x5_1 p357 q357
          cases e357
          have HR357_0 := iC.mk hi357_0
          have HC357_0 := iC.mk hl357_0
          clear hi357_0 hl357_0
          replace p357 := eq_true p357
          replace q357 := eq_true q357
          obtain ⟨Ao9, co9, eo9⟩ := Kd.R_slice HO_0.out
          subst eo9
          go_wp2_with (first | ((with_reducible refine iZ (f := 76) rfl ?_); refine jJ (some 26) rfl rfl Try.func76 (by kernel_rfl) rfl #[.slice Ao9 x0_1.length co9, .int .u64 (IntKind.u64.wrap ((((iW l1 x5_1).f0).length : Int))), .int .i64 1] rfl (by (try simp only [List.map_toArray, List.map_cons, List.map_nil]); first | done | rfl | (simp only [List.length_drop, List.length_take]; rfl)) ?_; (with_reducible refine (stratumref07_Put.calls k1 (fun k_ => some k_ = (.slice Ao9 x0_1.length co9 : Value).ownBlock) (.slice Ao9 x0_1.length co9) x0_1 (IntKind.u64.wrap ((((iW l1 x5_1).f0).length : Int))) 1 t358 w0 _ ?side1 ?side2 A8.out).mono ?_); (case side1 => repeat (first | (with_reducible first | exact HB.out | apply iG | apply iD | apply iF) | exact HB.out)); (case side2 => exact Kd.R_tight rfl HO_0.out); rintro e w10 ⟨v359, rfl, ho0, hb, hkp⟩; refine ⟨_, rfl, ?_⟩; have n0_ := iC.mk (Kd.R_mono (ok' := fun k_ => (P0_ k_ ∨ w.heap.size ≤ k_)) ho0 (fun k_ hk_ => Or.elim hk_ (fun hs_ => (HO_0.out.1 k_ (hs_).symm)) (fun hn_ => (.inr (Nat.le_trans (by first | exact HK.out.1 | exact (show Kept w _ (fun k_ => P0_ k_) from by repeat (first | (with_reducible first | exact HK.out | apply Kept.alloc | apply Kept.drewN | apply Kept.drew) | exact HK.out)).1) hn_))))); have n1_ := iC.mk (Kept.then_ (S := (fun k_ => P0_ k_)) (by repeat (first | (with_reducible first | exact HK.out | apply Kept.alloc | apply Kept.drewN | apply Kept.drew) | exact HK.out)) hkp (fun k_ hs_ => (fun e_ => (HO_0.out.1 k_ e_.symm)) hs_)); have n2_ := iC.mk (hb); clear HK; clear HB; clear HO_0; have HO360 := n0_; have HK := n1_; have HB := n2_; clear n0_ n1_ n2_; (try clear hb); (try clear hkp); (try clear ho0)))
          go_loopg [0, 6] k1 (fun kq v0 v6 w' => ∃ (x0_2 : List Int) (x6_2 : Int), v6 = .int .i64 x6_2 ∧ iC (stratumref07_Facts.l1 kq x0_2 l1 x5_1 x6_2 = some r) ∧ iC (kq ≤ k1) ∧ iC (Kd.R (Kd.int .u8) 5 w' w0.heap.size (fun k_ => (P0_ k_ ∨ w.heap.size ≤ k_)) v0 x0_2) ∧ iC (Kept w w' (fun k_ => P0_ k_)) ∧ iC (Below w0.heap.size w0 w'))
          case atStart => exact ⟨(t358), (0), (by first | rfl | (simp; done) | (simp [*]; done)), H', ⟨Nat.le_refl _⟩, ⟨by (with_reducible repeat (first | apply Kd.R_alloc | apply Kd.R_drewN | apply Kd.R_drew)); exact HO360.out⟩, ⟨by repeat (first | (with_reducible first | exact HK.out | apply Kept.alloc | apply Kept.drewN | apply Kept.drew) | exact HK.out)⟩, ⟨hb_⟩⟩
          case round =>
            clear H'
            try clear c1
            try clear p2
            try clear c3
            try clear p3
            try clear q3
            try clear hx3
            try clear c5
            try clear c6
            try clear c6b0
            try clear c7
            try clear c7b0
            try clear hx357_0
            try clear hx357_1
            try clear p2
            try clear p357
            try clear q357
            obtain ⟨x0_2, x6_2, rfl, HA, HK2, HO_0, HK, HB⟩ := hrel
            cases gk with
            | zero => exact absurd HA.out (by simp [stratumref07_Facts.l1])
            | succ k2 =>
              have H := HA.out
              clear HA
              simp only [stratumref07_Facts.l1] at H
              by_cases c11 : 0 ≤ x5_1
              · rw [if_pos c11] at H
                have c11b0 : decide (0 ≤ x5_1) = true := decide_eq_true c11
                clear c11
                by_cases c12 : x5_1 < (l1.length : Int)
                · rw [if_pos c12] at H
                  have c12b0 : decide (x5_1 < (l1.length : Int)) = true := decide_eq_true c12
                  clear c12
                  by_cases c13 : x6_2 < (((iW l1 x5_1).f0).length : Int)
                  · rw [if_pos c13] at H
                    have c13b0 : decide (x6_2 < (((iW l1 x5_1).f0).length : Int)) = true := decide_eq_true c13
                    clear c13
                    by_cases c14 : 0 ≤ x6_2
                    · rw [if_pos c14] at H
                      have c14b0 : decide (0 ≤ x6_2) = true := decide_eq_true c14
                      clear c14
                      replace H := Option.bind_eq_some_iff.mp H
                      obtain ⟨t364, A150, H⟩ := H
                      replace H : (stratumref07_Facts.l1 k2 t364 l1 x5_1 (wrap64 (x6_2 + 1))) = some r := H
                      have A15 := iC.mk A150
                      clear A150
                      have H' := iC.mk H
                      clear H
                      have p361 : 0 ≤ (x5_1 : Int) := of_decide_eq_true asm_
                      have q361 : x5_1 < (l1.length : Int) := of_decide_eq_true asm_
                      obtain ⟨ad361, A361_0, c361_0, e361, hx361_0, hx361_1, hl361_0, hi361_0⟩ := kN (Kd.C_kept_now HR1.out HK.out) x5_1 p361 q361
                      obtain rfl : ad357 = ad361 := (by injection e361)
                      have HR361_0 := iC.mk hi361_0
                      have HC361_0 := iC.mk hl361_0
                      clear hi361_0 hl361_0
                      replace p361 := eq_true p361
                      replace q361 := eq_true q361
                      have p362 : 0 ≤ (x5_1 : Int) := of_decide_eq_true asm_
                      have q362 : x5_1 < (l1.length : Int) := of_decide_eq_true asm_
                      obtain ⟨ad362, A362_0, c362_0, e362, hx362_0, hx362_1, hl362_0, hi362_0⟩ := kN (Kd.C_kept_now HR1.out HK.out) x5_1 p362 q362
                      obtain rfl : ad357 = ad362 := (by injection e362)
                      have HR362_0 := iC.mk hi362_0
                      have HC362_0 := iC.mk hl362_0
                      clear hi362_0 hl362_0
                      replace p362 := eq_true p362
                      replace q362 := eq_true q362
                      have ea_ := Option.some.inj (hx361_0.symm.trans hx362_0)
                      injection ea_ with ea_ en_ ec_
                      subst ea_
                      subst ec_
                      clear en_
                      have p363 : 0 ≤ (x6_2 : Int) := of_decide_eq_true asm_
                      have q363 : x6_2 < (((iW l1 x5_1).f0).length : Int) := of_decide_eq_true asm_
                      obtain ⟨ad363, e363, hx363_0⟩ := Kd.at_int (by repeat (first | (with_reducible exact HR362_0.out) | (with_reducible refine Kd.C_alloc ?_ _) | (with_reducible refine Kd.C_drewN ?_ _) | (with_reducible refine Kd.C_drew ?_) | exact HR362_0.out)) x6_2 p363 q363
                      cases e363
                      replace p363 := eq_true p363
                      replace q363 := eq_true q363
                      obtain ⟨Ao16, co16, eo16⟩ := Kd.R_slice HO_0.out
                      subst eo16
                      go_wp2_with (first | ((with_reducible refine iZ (f := 76) rfl ?_); refine jJ (some 47) rfl rfl Try.func76 (by kernel_rfl) rfl #[.slice Ao16 x0_2.length co16, .int .u64 (IntKind.u64.wrap (rd ((iW l1 x5_1).f0) x6_2)), .int .i64 4] rfl (by (try simp only [List.map_toArray, List.map_cons, List.map_nil]); first | done | rfl | (simp only [List.length_drop, List.length_take]; rfl)) ?_; (with_reducible refine (stratumref07_Put.calls k2 (fun k_ => some k_ = (.slice Ao16 x0_2.length co16 : Value).ownBlock) (.slice Ao16 x0_2.length co16) x0_2 (IntKind.u64.wrap (rd ((iW l1 x5_1).f0) x6_2)) 4 t364 w0 _ ?side1 ?side2 A15.out).mono ?_); (case side1 => repeat (first | (with_reducible first | exact HB.out | apply iG | apply iD | apply iF) | exact HB.out)); (case side2 => exact Kd.R_tight rfl HO_0.out); rintro e w17 ⟨v365, rfl, ho0, hb, hkp⟩; refine ⟨_, rfl, ?_⟩; have n0_ := iC.mk (Kd.R_mono (ok' := fun k_ => (P0_ k_ ∨ w.heap.size ≤ k_)) ho0 (fun k_ hk_ => Or.elim hk_ (fun hs_ => (HO_0.out.1 k_ (hs_).symm)) (fun hn_ => (.inr (Nat.le_trans (by first | exact HK.out.1 | exact (show Kept w _ (fun k_ => P0_ k_) from by repeat (first | (with_reducible first | exact HK.out | apply Kept.alloc | apply Kept.drewN | apply Kept.drew) | exact HK.out)).1) hn_))))); have n1_ := iC.mk (Kept.then_ (S := (fun k_ => P0_ k_)) (by repeat (first | (with_reducible first | exact HK.out | apply Kept.alloc | apply Kept.drewN | apply Kept.drew) | exact HK.out)) hkp (fun k_ hs_ => (fun e_ => (HO_0.out.1 k_ e_.symm)) hs_)); have n2_ := iC.mk (hb); clear HK; clear HB; clear HO_0; have HO366 := n0_; have HK := n1_; have HB := n2_; clear n0_ n1_ n2_; (try clear hb); (try clear hkp); (try clear ho0)))
                      go_roundg k2
                      case measure => have := HK1.out; have := HK2.out; omega
                      case rel => exact ⟨(t364), (wrap64 (x6_2 + 1)), (by first | rfl | (simp; done) | (simp [*]; done)), H', ⟨by have := HK1.out; have := HK2.out; omega⟩, ⟨by (with_reducible repeat (first | apply Kd.R_alloc | apply Kd.R_drewN | apply Kd.R_drew)); exact HO366.out⟩, ⟨by repeat (first | (with_reducible first | exact HK.out | apply Kept.alloc | apply Kept.drewN | apply Kept.drew) | exact HK.out)⟩, ⟨hb_⟩⟩
                    · rw [if_neg c14] at H
                      exact absurd H (by simp)
                  · rw [if_neg c13] at H
                    have c13b0 : decide (x6_2 < (((iW l1 x5_1).f0).length : Int)) = false := decide_eq_false c13
                    clear c13
                    replace H := Option.bind_eq_some_iff.mp H
                    obtain ⟨t368, A180, H⟩ := H
                    replace H : (stratumref07_Facts.l0 k2 t368 l1 (wrap64 (x5_1 + 1))) = some r := H
                    have A18 := iC.mk A180
                    clear A180
                    have H' := iC.mk H
                    clear H
                    have p361 : 0 ≤ (x5_1 : Int) := of_decide_eq_true asm_
                    have q361 : x5_1 < (l1.length : Int) := of_decide_eq_true asm_
                    obtain ⟨ad361, A361_0, c361_0, e361, hx361_0, hx361_1, hl361_0, hi361_0⟩ := kN (Kd.C_kept_now HR1.out HK.out) x5_1 p361 q361
                    obtain rfl : ad357 = ad361 := (by injection e361)
                    have HR361_0 := iC.mk hi361_0
                    have HC361_0 := iC.mk hl361_0
                    clear hi361_0 hl361_0
                    replace p361 := eq_true p361
                    replace q361 := eq_true q361
                    have p367 : 0 ≤ (x5_1 : Int) := of_decide_eq_true asm_
                    have q367 : x5_1 < (l1.length : Int) := of_decide_eq_true asm_
                    obtain ⟨ad367, A367_0, c367_0, e367, hx367_0, hx367_1, hl367_0, hi367_0⟩ := kN (Kd.C_kept_now HR1.out HK.out) x5_1 p367 q367
                    obtain rfl : ad357 = ad367 := (by injection e367)
                    have HR367_0 := iC.mk hi367_0
                    have HC367_0 := iC.mk hl367_0
                    clear hi367_0 hl367_0
                    replace p367 := eq_true p367
                    replace q367 := eq_true q367
                    have ea_ := Option.some.inj (hx361_0.symm.trans hx367_0)
                    injection ea_ with ea_ en_ ec_
                    subst ea_
                    subst ec_
                    clear en_
                    obtain ⟨Ao19, co19, eo19⟩ := Kd.R_slice HO_0.out
                    subst eo19
                    go_wp2_with (first | ((with_reducible refine iZ (f := 76) rfl ?_); refine jJ (some 55) rfl rfl Try.func76 (by kernel_rfl) rfl #[.slice Ao19 x0_2.length co19, .int .u64 (IntKind.u64.wrap ((iW l1 x5_1).f1)), .int .i64 8] rfl (by (try simp only [List.map_toArray, List.map_cons, List.map_nil]); first | done | rfl | (simp only [List.length_drop, List.length_take]; rfl)) ?_; (with_reducible refine (stratumref07_Put.calls k2 (fun k_ => some k_ = (.slice Ao19 x0_2.length co19 : Value).ownBlock) (.slice Ao19 x0_2.length co19) x0_2 (IntKind.u64.wrap ((iW l1 x5_1).f1)) 8 t368 w0 _ ?side1 ?side2 A18.out).mono ?_); (case side1 => repeat (first | (with_reducible first | exact HB.out | apply iG | apply iD | apply iF) | exact HB.out)); (case side2 => exact Kd.R_tight rfl HO_0.out); rintro e w20 ⟨v369, rfl, ho0, hb, hkp⟩; refine ⟨_, rfl, ?_⟩; have n0_ := iC.mk (Kd.R_mono (ok' := fun k_ => (P0_ k_ ∨ w.heap.size ≤ k_)) ho0 (fun k_ hk_ => Or.elim hk_ (fun hs_ => (HO_0.out.1 k_ (hs_).symm)) (fun hn_ => (.inr (Nat.le_trans (by first | exact HK.out.1 | exact (show Kept w _ (fun k_ => P0_ k_) from by repeat (first | (with_reducible first | exact HK.out | apply Kept.alloc | apply Kept.drewN | apply Kept.drew) | exact HK.out)).1) hn_))))); have n1_ := iC.mk (Kept.then_ (S := (fun k_ => P0_ k_)) (by repeat (first | (with_reducible first | exact HK.out | apply Kept.alloc | apply Kept.drewN | apply Kept.drew) | exact HK.out)) hkp (fun k_ hs_ => (fun e_ => (HO_0.out.1 k_ e_.symm)) hs_)); have n2_ := iC.mk (hb); clear HK; clear HB; clear HO_0; have HO370 := n0_; have HK := n1_; have HB := n2_; clear n0_ n1_ n2_; (try clear hb); (try clear hkp); (try clear ho0)))
                    go_roundg k2
                    case measure => have := HK1.out; have := HK2.out; omega
                    case rel => exact ⟨(t368), (wrap64 (x5_1 + 1)), (by first | rfl | (simp; done) | (simp [*]; done)), H', ⟨by have := HK1.out; have := HK2.out; omega⟩, ⟨by (with_reducible repeat (first | apply Kd.R_alloc | apply Kd.R_drewN | apply Kd.R_drew)); exact HO370.out⟩, ⟨by repeat (first | (with_reducible first | exact HK.out | apply Kept.alloc | apply Kept.drewN | apply Kept.drew) | exact HK.out)⟩, ⟨hb_⟩⟩
                · rw [if_neg c12] at H
                  exact absurd H (by simp)
              · rw [if_neg c11] at H
                exact absurd H (by simp)
        · rw [if_neg c7] at H
          exact absurd H (by simp)
      · rw [if_neg c6] at H
        have c6b0 : decide (x5_1 < (l1.length : Int)) = false := decide_eq_false c6
        clear c6
        obtain rfl := Option.some.inj H
        go_wp2
        go_ret
        exact ⟨_, by first | rfl | (simp [iU, iV] <;> rfl) | (simp [*, iU, iV] <;> rfl), by (with_reducible repeat (first | apply Kd.R_alloc | apply Kd.R_drewN | apply Kd.R_drew)); exact HO_0.out, hb_, by repeat (first | (with_reducible first | exact HK.out | apply Kept.alloc | apply Kept.drewN | apply Kept.drew) | exact HK.out)⟩
end Go.Proofs.Ytjppookmjdaplaa.K
end

section
namespace Go.Proofs.Ytjppookmjdaplaa.K
open Go.RowKit Go.Proofs.YtjppookmjdaplaaW.PrintWords Go.Proofs.YtjppookmjdaplaaW.PrintLast Go.Proofs.YtjppookmjdaplaaW.PrintMore
attribute [local go_sem] jQ jP jX jW
def stratumref07_SameFacts.f (k : Nat) (l0 : List (S103)) (l1 : List (S103)) : Option (Bool) := (stratumref07_Facts.f k ([] : List Int) l0).bind fun t371 => ((stratumref07_Facts.f k ([] : List Int) l1).bind fun t374 => (some ((strOfNums t371).toList == (strOfNums t374).toList)))
def stratumref07_SameFacts.T1 : Bool × List (List Nat × List Nat) := (true, [([], []), ([0], [0]), ([1], [1]), ([], []), ([3, 1], [3]), ([4], [4]), ([2, 5], [2, 5]), ([6, 4, 0, 1, 2, 3, 4, 5, 6], [6])])
def stratumref07_SameFacts.B1 : List Nat := [0, 1, 3, 0, 11, 27, 63, 127]
theorem stratumref07_SameFacts.tab1 : rtab .any (opsOf Try.f22 1) = stratumref07_SameFacts.T1 := by kernel_rfl
theorem stratumref07_SameFacts.bits1 : kX stratumref07_SameFacts.T1.2 stratumref07_SameFacts.B1 = true := by kernel_rfl
set_option maxHeartbeats 8000000 in
set_option maxRecDepth 100000 in
theorem stratumref07_SameFacts.calls (k : Nat) (A0 : Option Addr) (c0 : Nat) (l0 : List (S103)) (A1 : Option Addr) (c1 : Nat) (l1 : List (S103)) (r : Bool) (w : World) (hr0 : Kd.C k103 w A0 l0.length l0) (hc0 : l0.length ≤ c0) (hr1 : Kd.C k103 w A1 l1.length l1) (hc1 : l1.length ≤ c1) (h : stratumref07_SameFacts.f k l0 l1 = some r) :
    Calls Try.prog 22 #[.slice A0 l0.length c0, .slice A1 l1.length c1] w fun e w' => e = .returned (.bool r) ∧ Below w.heap.size w w' := by
  have HR0 := iC.mk hr0
  have HC0 := iC.mk hc0
  clear hr0 hc0
  have HR1 := iC.mk hr1
  have HC1 := iC.mk hc1
  clear hr1 hc1
  have HB := iC.mk (Below.refl w.heap.size w)
  have H : ((stratumref07_Facts.f k ([] : List Int) l0).bind fun t371 => ((stratumref07_Facts.f k ([] : List Int) l1).bind fun t374 => (some ((strOfNums t371).toList == (strOfNums t374).toList)))) = some r := h
  clear h
  replace H := Option.bind_eq_some_iff.mp H
  obtain ⟨t371, A30, H⟩ := H
  replace H : ((stratumref07_Facts.f k ([] : List Int) l1).bind fun t374 => (some ((strOfNums t371).toList == (strOfNums t374).toList))) = some r := H
  have A3 := iC.mk A30
  clear A30
  replace H := Option.bind_eq_some_iff.mp H
  obtain ⟨t374, A40, H⟩ := H
  replace H : (some ((strOfNums t371).toList == (strOfNums t374).toList)) = some r := H
  have A4 := iC.mk A40
  clear A40
  obtain rfl := Option.some.inj H
  go_enter Try.func22, Try.ntmps22
  try go_wp2
  have n0_ := iC.mk (iF HB.out)
  clear HB
  have HB := n0_
  clear n0_
  refine kP (n := 8) (S := fun w' => True) (ds := []) #[false, false, false, false, false, false, false, false] (by kernel_rfl) rfl rfl trivial (fun hHeld => ?_); refine jV stratumref07_SameFacts.tab1 stratumref07_SameFacts.bits1 (fun HT_ HW_ => ?_)
  generalize w.drew = w5 at HB hHeld ⊢
  refine jA (i := 0) (N := some 5) (v := ?_) (a' := ?_) #[true, false, false, false, false, false, false, false] rfl rfl (iQ HT_.out (by kernel_rfl)) (fun _ _ _ h => h) (Or.inl ⟨by rfl, ?_⟩) ?_ ?_
  rotate_left
  · intro w'
    go_simp
    with_reducible rfl
  rotate_left
  · simp only [Act.put, List.setIfInBounds_toArray, List.set_cons_zero, List.set_cons_succ, iR, iT]
    rfl
  refine jA (i := 3) (N := some 8) (v := ?_) (a' := ?_) #[true, false, false, true, false, false, false, false] rfl rfl (iQ HT_.out (by kernel_rfl)) (fun _ _ _ h => h) (Or.inl ⟨by rfl, ?_⟩) ?_ ?_
  rotate_left
  · intro w'
    go_simp
    with_reducible rfl
  rotate_left
  · simp only [Act.put, List.setIfInBounds_toArray, List.set_cons_zero, List.set_cons_succ, iR, iT]
    rfl
  refine one_ (i := 1) (N := some 6) #[true, true, false, true, false, false, false, false] rfl rfl (jS HT_.out (by kernel_rfl)) (by decide) (fun K hK => ?_)
  refine kK Try.func54 (by kernel_rfl) rfl #[.slice none 0 0, .slice A0 l0.length c0] (by rfl) rfl rfl (by (try simp only [List.map_toArray, List.map_cons, List.map_nil]); first | done | rfl | (simp only [List.length_drop, List.length_take]; rfl)) ?_
  refine (stratumref07_Facts.calls k (fun k_ => some k_ = (.slice none 0 0 : Value).ownBlock) (.slice none 0 0) ([] : List Int) _ _ l0 t371 w _ ?side1 ?side2 ?side3 ?side4 A3.out).mono ?_
  (case side1 => repeat (first | (with_reducible first | exact HB.out | apply iG | apply iD | apply iF) | exact HB.out))
  (case side2 => exact Kd.R_nil _ _ _ _ _)
  (case side3 => exact Kd.C_kept_came lF HR0.out hb_ (fun k_ hs_ => (fun e_ => by simp [Value.ownBlock] at e_) hs_))
  (case side4 => exact HC0.out)
  rintro e w6 ⟨v372, rfl, ho0, hb, hkp⟩
  refine ⟨_, rfl, ?_⟩
  have n0_ := iC.mk (Kd.R_mono (ok' := fun k_ => True) ho0 (fun k_ hk_ => trivial))
  have n1_ := iC.mk (hb)
  clear HB
  have HO373 := n0_
  have HB := n1_
  clear n0_ n1_
  (try clear hb)
  (try clear hkp)
  (try clear ho0)
  refine hK.out _ _ trivial (fun hHeld => ?_)
  clear hK K
  refine jT (a' := ?_) ?_ ?_
  rotate_left
  · show Act.put _ (some 6) _ = _
    simp only [Act.put, List.setIfInBounds_toArray, List.set_cons_zero, List.set_cons_succ, iR, iT]
    rfl
  refine zZ (σ := Value) 2 #[true, true, true, true, true, true, false, false] (fun s_ => [(7, .string (strOfNums t371)), (9, s_), (10, .string (strOfNums t374))]) (fun s_ w' => (Kd.R (Kd.int .u8) 5 w' w.heap.size (fun k_ => some k_ ≠ (s_ : Value).ownBlock) v372 t371) ∧ (Kd.R (Kd.int .u8) 5 w' w.heap.size (fun k_ => some k_ ≠ (v372 : Value).ownBlock) s_ t374) ∧ (Below w.heap.size w w')) ?_ ?_
  rotate_left
  · intro hCont
    refine two_ (i := 2) (j := 4) (Ni := some 7) (Nj := some 9) #[true, true, true, true, false, false, false, false] #[true, true, false, true, true, false, false, false] rfl rfl rfl rfl (uG HT_.out (by kernel_rfl)) (by decide) (by decide) (fun K hK => ?_) (fun K hK => ?_)
    · skip
      have hcv7 := kQ (P := Try.prog) Try.underlying22 Try.underlying5 Try.underlying9 (Kd.own_of_R HO373.out)
      refine nS (w1 := ?_) (v := ?_) (by rfl) rfl ?_ ?_
      rotate_left 2
      · go_simp
        constructor
        · rfl
        · rfl
      clear hcv7
      refine hK.out _ _ trivial (fun hHeld => ?_)
      clear hK K
      refine jT (a' := ?_) ?_ ?_
      rotate_left
      · show Act.put _ (some 7) _ = _
        simp only [Act.put, List.setIfInBounds_toArray, List.set_cons_zero, List.set_cons_succ, iR, iT]
        rfl
      refine one_ (i := 4) (N := some 9) #[true, true, true, true, true, false, false, false] rfl rfl (jS HT_.out (by kernel_rfl)) (by decide) (fun K hK => ?_)
      refine kK Try.func54 (by kernel_rfl) rfl #[.slice none 0 0, .slice A1 l1.length c1] (by rfl) rfl rfl (by (try simp only [List.map_toArray, List.map_cons, List.map_nil]); first | done | rfl | (simp only [List.length_drop, List.length_take]; rfl)) ?_
      refine (stratumref07_Facts.calls k (fun k_ => some k_ = (.slice none 0 0 : Value).ownBlock) (.slice none 0 0) ([] : List Int) _ _ l1 t374 w _ ?side1 ?side2 ?side3 ?side4 A4.out).mono ?_
      (case side1 => repeat (first | (with_reducible first | exact HB.out | apply iG | apply iD | apply iF) | exact HB.out))
      (case side2 => exact Kd.R_nil _ _ _ _ _)
      (case side3 => exact Kd.C_kept_came lF HR1.out hb_ (fun k_ hs_ => (fun e_ => by simp [Value.ownBlock] at e_) hs_))
      (case side4 => exact HC1.out)
      rintro e w8 ⟨v375, rfl, ho0, hb, hkp⟩
      refine ⟨_, rfl, ?_⟩
      have n0_ := iC.mk (Kd.R_mono (ok' := fun k_ => some k_ ≠ (v375 : Value).ownBlock) (Kd.R_keptB (HO373.out) hkp (fun k_ hk_ hs_ => (fun e_ => by simp [Value.ownBlock] at e_) hs_)) (fun k_ hk_ => fun e_ => Or.elim (ho0.1 k_ e_.symm) (fun hs_ => hk_.2.1 hs_) (fun hn_ => Nat.not_le.2 hk_.2.2 hn_)))
      have n1_ := iC.mk (Kd.R_mono (ok' := fun k_ => some k_ ≠ (v372 : Value).ownBlock) ho0 (fun k_ hk_ => Or.elim hk_ (fun hs_ => absurd hs_ (by simp [Value.ownBlock])) (fun hn_ => (Kd.fresh' (Kd.R_lt (by (with_reducible repeat (first | apply Kd.R_alloc | apply Kd.R_drewN | apply Kd.R_drew)); exact HO373.out)) k_ hn_))))
      have n2_ := iC.mk (hb)
      clear HO373
      clear HB
      have HO373 := n0_
      have HO376 := n1_
      have HB := n2_
      clear n0_ n1_ n2_
      (try clear hb)
      (try clear hkp)
      (try clear ho0)
      refine hK.out _ _ trivial (fun hHeld => ?_)
      clear hK K
      refine jT (a' := ?_) ?_ ?_
      rotate_left
      · show Act.put _ (some 9) _ = _
        simp only [Act.put, List.setIfInBounds_toArray, List.set_cons_zero, List.set_cons_succ, iR, iT]
        rfl
      refine one_ (i := 5) (N := some 10) #[true, true, true, true, true, true, false, false] rfl rfl (jS HT_.out (by kernel_rfl)) (by decide) (fun K hK => ?_)
      have hcv9 := kQ (P := Try.prog) Try.underlying22 Try.underlying5 Try.underlying9 (Kd.own_of_R HO376.out)
      refine nS (w1 := ?_) (v := ?_) (by rfl) rfl ?_ ?_
      rotate_left 2
      · go_simp
        constructor
        · rfl
        · rfl
      clear hcv9
      refine hK.out _ _ trivial (fun hHeld => ?_)
      clear hK K
      refine jT (a' := ?_) ?_ ?_
      rotate_left
      · show Act.put _ (some 10) _ = _
        simp only [Act.put, List.setIfInBounds_toArray, List.set_cons_zero, List.set_cons_succ, iR, iT]
        rfl
      exact jT (by simp only [kZ, Act.put, List.setIfInBounds_toArray, List.set_cons_zero, List.set_cons_succ]) (hCont (v375) _ ⟨(by (with_reducible repeat (first | apply Kd.R_alloc | apply Kd.R_drewN | apply Kd.R_drew)); exact HO373.out), (by (with_reducible repeat (first | apply Kd.R_alloc | apply Kd.R_drewN | apply Kd.R_drew)); exact HO376.out), hb_⟩)
    · skip
      refine kK Try.func54 (by kernel_rfl) rfl #[.slice none 0 0, .slice A1 l1.length c1] (by rfl) rfl rfl (by (try simp only [List.map_toArray, List.map_cons, List.map_nil]); first | done | rfl | (simp only [List.length_drop, List.length_take]; rfl)) ?_
      refine (stratumref07_Facts.calls k (fun k_ => some k_ = (.slice none 0 0 : Value).ownBlock) (.slice none 0 0) ([] : List Int) _ _ l1 t374 w _ ?side1 ?side2 ?side3 ?side4 A4.out).mono ?_
      (case side1 => repeat (first | (with_reducible first | exact HB.out | apply iG | apply iD | apply iF) | exact HB.out))
      (case side2 => exact Kd.R_nil _ _ _ _ _)
      (case side3 => exact Kd.C_kept_came lF HR1.out hb_ (fun k_ hs_ => (fun e_ => by simp [Value.ownBlock] at e_) hs_))
      (case side4 => exact HC1.out)
      rintro e w7 ⟨v375, rfl, ho0, hb, hkp⟩
      refine ⟨_, rfl, ?_⟩
      have n0_ := iC.mk (Kd.R_mono (ok' := fun k_ => some k_ ≠ (v375 : Value).ownBlock) (Kd.R_keptB (HO373.out) hkp (fun k_ hk_ hs_ => (fun e_ => by simp [Value.ownBlock] at e_) hs_)) (fun k_ hk_ => fun e_ => Or.elim (ho0.1 k_ e_.symm) (fun hs_ => hk_.2.1 hs_) (fun hn_ => Nat.not_le.2 hk_.2.2 hn_)))
      have n1_ := iC.mk (Kd.R_mono (ok' := fun k_ => some k_ ≠ (v372 : Value).ownBlock) ho0 (fun k_ hk_ => Or.elim hk_ (fun hs_ => absurd hs_ (by simp [Value.ownBlock])) (fun hn_ => (Kd.fresh' (Kd.R_lt (by (with_reducible repeat (first | apply Kd.R_alloc | apply Kd.R_drewN | apply Kd.R_drew)); exact HO373.out)) k_ hn_))))
      have n2_ := iC.mk (hb)
      clear HO373
      clear HB
      have HO373 := n0_
      have HO376 := n1_
      have HB := n2_
      clear n0_ n1_ n2_
      (try clear hb)
      (try clear hkp)
      (try clear ho0)
      refine hK.out _ _ trivial (fun hHeld => ?_)
      clear hK K
      refine jT (a' := ?_) ?_ ?_
      rotate_left
      · show Act.put _ (some 9) _ = _
        simp only [Act.put, List.setIfInBounds_toArray, List.set_cons_zero, List.set_cons_succ, iR, iT]
        rfl
      refine two_ (i := 2) (j := 5) (Ni := some 7) (Nj := some 10) #[true, true, true, true, true, false, false, false] #[true, true, false, true, true, true, false, false] rfl rfl rfl rfl (uG HT_.out (by kernel_rfl)) (by decide) (by decide) (fun K hK => ?_) (fun K hK => ?_)
      · skip
        have hcv8 := kQ (P := Try.prog) Try.underlying22 Try.underlying5 Try.underlying9 (Kd.own_of_R HO373.out)
        refine nS (w1 := ?_) (v := ?_) (by rfl) rfl ?_ ?_
        rotate_left 2
        · go_simp
          constructor
          · rfl
          · rfl
        clear hcv8
        refine hK.out _ _ trivial (fun hHeld => ?_)
        clear hK K
        refine jT (a' := ?_) ?_ ?_
        rotate_left
        · show Act.put _ (some 7) _ = _
          simp only [Act.put, List.setIfInBounds_toArray, List.set_cons_zero, List.set_cons_succ, iR, iT]
          rfl
        refine one_ (i := 5) (N := some 10) #[true, true, true, true, true, true, false, false] rfl rfl (jS HT_.out (by kernel_rfl)) (by decide) (fun K hK => ?_)
        have hcv9 := kQ (P := Try.prog) Try.underlying22 Try.underlying5 Try.underlying9 (Kd.own_of_R HO376.out)
        refine nS (w1 := ?_) (v := ?_) (by rfl) rfl ?_ ?_
        rotate_left 2
        · go_simp
          constructor
          · rfl
          · rfl
        clear hcv9
        refine hK.out _ _ trivial (fun hHeld => ?_)
        clear hK K
        refine jT (a' := ?_) ?_ ?_
        rotate_left
        · show Act.put _ (some 10) _ = _
          simp only [Act.put, List.setIfInBounds_toArray, List.set_cons_zero, List.set_cons_succ, iR, iT]
          rfl
        exact jT (by simp only [kZ, Act.put, List.setIfInBounds_toArray, List.set_cons_zero, List.set_cons_succ]) (hCont (v375) _ ⟨(by (with_reducible repeat (first | apply Kd.R_alloc | apply Kd.R_drewN | apply Kd.R_drew)); exact HO373.out), (by (with_reducible repeat (first | apply Kd.R_alloc | apply Kd.R_drewN | apply Kd.R_drew)); exact HO376.out), hb_⟩)
      · skip
        have hcv8 := kQ (P := Try.prog) Try.underlying22 Try.underlying5 Try.underlying9 (Kd.own_of_R HO376.out)
        refine nS (w1 := ?_) (v := ?_) (by rfl) rfl ?_ ?_
        rotate_left 2
        · go_simp
          constructor
          · rfl
          · rfl
        clear hcv8
        refine hK.out _ _ trivial (fun hHeld => ?_)
        clear hK K
        refine jT (a' := ?_) ?_ ?_
        rotate_left
        · show Act.put _ (some 10) _ = _
          simp only [Act.put, List.setIfInBounds_toArray, List.set_cons_zero, List.set_cons_succ, iR, iT]
          rfl
        refine one_ (i := 2) (N := some 7) #[true, true, true, true, true, true, false, false] rfl rfl (jS HT_.out (by kernel_rfl)) (by decide) (fun K hK => ?_)
        have hcv9 := kQ (P := Try.prog) Try.underlying22 Try.underlying5 Try.underlying9 (Kd.own_of_R HO373.out)
        refine nS (w1 := ?_) (v := ?_) (by rfl) rfl ?_ ?_
        rotate_left 2
        · go_simp
          constructor
          · rfl
          · rfl
        clear hcv9
        refine hK.out _ _ trivial (fun hHeld => ?_)
        clear hK K
        refine jT (a' := ?_) ?_ ?_
        rotate_left
        · show Act.put _ (some 7) _ = _
          simp only [Act.put, List.setIfInBounds_toArray, List.set_cons_zero, List.set_cons_succ, iR, iT]
          rfl
        exact jT (by simp only [kZ, Act.put, List.setIfInBounds_toArray, List.set_cons_zero, List.set_cons_succ]) (hCont (v375) _ ⟨(by (with_reducible repeat (first | apply Kd.R_alloc | apply Kd.R_drewN | apply Kd.R_drew)); exact HO373.out), (by (with_reducible repeat (first | apply Kd.R_alloc | apply Kd.R_drewN | apply Kd.R_drew)); exact HO376.out), hb_⟩)
  rintro v375 w10 ⟨h0_, h1_, h2_⟩
  have n0_ : iC (Kd.R (Kd.int .u8) 5 w10 w.heap.size (fun k_ => some k_ ≠ (v375 : Value).ownBlock) v372 t371) := ⟨h0_⟩
  have n1_ : iC (Kd.R (Kd.int .u8) 5 w10 w.heap.size (fun k_ => some k_ ≠ (v372 : Value).ownBlock) v375 t374) := ⟨h1_⟩
  have n2_ : iC (Below w.heap.size w w10) := ⟨h2_⟩
  clear HB
  clear h0_ h1_ h2_
  have HO373 := n0_
  have HO376 := n1_
  have HB := n2_
  clear n0_ n1_ n2_
  have hHeld := trivial
  refine jT (a' := ?_) ?_ ?_
  rotate_left
  · simp only [kZ, Act.put, List.setIfInBounds_toArray, List.set_cons_zero, List.set_cons_succ]
    rfl
  refine jA (i := 6) (N := some 11) (v := ?_) (a' := ?_) #[true, true, true, true, true, true, true, false] rfl rfl (iQ HT_.out (by kernel_rfl)) (fun _ _ _ h => h) (Or.inl ⟨by rfl, ?_⟩) ?_ ?_
  rotate_left
  · intro w'
    go_simp
    with_reducible rfl
  rotate_left
  · simp only [Act.put, List.setIfInBounds_toArray, List.set_cons_zero, List.set_cons_succ, iR, iT]
    rfl
  refine jA (i := 7) (N := some 4) (v := ?_) (a' := ?_) #[true, true, true, true, true, true, true, true] rfl rfl (iQ HT_.out (by kernel_rfl)) (fun _ _ _ h => h) (Or.inl ⟨by rfl, ?_⟩) ?_ ?_
  rotate_left
  · intro w'
    go_simp
    with_reducible rfl
  rotate_left
  · simp only [Act.put, List.setIfInBounds_toArray, List.set_cons_zero, List.set_cons_succ, iR, iT]
    rfl
  refine lT (kH HT_.out (by kernel_rfl)) ?_
  try go_wp2
  go_ret
  exact ⟨by first | rfl | (simp [iU, iV] <;> rfl) | (simp [*, iU, iV] <;> rfl), hb_⟩
end Go.Proofs.Ytjppookmjdaplaa.K
end

section
namespace Go.Proofs.Ytjppookmjdaplaa.K
open Go.RowKit Go.Proofs.YtjppookmjdaplaaW.PrintWords Go.Proofs.YtjppookmjdaplaaW.PrintLast Go.Proofs.YtjppookmjdaplaaW.PrintMore
attribute [local go_sem] jQ jP jX jW
def stratumref07_CopyFacts.l0 : Nat → List (S103) → List (S103) → Int → Option ((List (S103)))
  | 0, _, _, _ => none
  | k + 1, x0, x3, x4 => if x4 < (x0.length : Int) then (if 0 ≤ x4 then (if ([] : List Int).length + ((iW x0 x4).f0).length < 17592186044416 then (if x3.length < 4398046511104 then (stratumref07_CopyFacts.l0 k x0 (x3 ++ [(⟨(([] : List Int) ++ ((iW x0 x4).f0)), (iW x0 x4).f1⟩ : S103)]) (wrap64 (x4 + 1))) else (none)) else (none)) else (none)) else (some x3)
def stratumref07_CopyFacts.f (k : Nat) (l0 : List (S103)) : Option ((List (S103))) := stratumref07_CopyFacts.l0 k l0 ([] : List (S103)) 0
set_option maxHeartbeats 8000000 in
set_option maxRecDepth 100000 in
theorem stratumref07_CopyFacts.calls (k : Nat) (A0 : Option Addr) (c0 : Nat) (l0 : List (S103)) (r : List (S103)) (w : World) (hr0 : Kd.C k103 w A0 l0.length l0) (hc0 : l0.length ≤ c0) (h : stratumref07_CopyFacts.f k l0 = some r) :
    Calls Try.prog 57 #[.slice A0 l0.length c0] w fun e w' => ∃ v0_ : Value, e = .returned (v0_) ∧ Kd.R k103 103 w' w.heap.size (fun _ => True) v0_ r ∧ Below w.heap.size w w' := by
  have hu103 := Try.underlying103
  have HR0 := iC.mk hr0
  have HC0 := iC.mk hc0
  clear hr0 hc0
  have HB := iC.mk (Below.refl w.heap.size w)
  have H : (stratumref07_CopyFacts.l0 k l0 ([] : List (S103)) 0) = some r := h
  clear h
  have H' := iC.mk H
  clear H
  go_enter Try.func57, Try.ntmps57
  go_wp2
  go_loopg [3, 4] k (fun kq v3 v4 w' => ∃ (x3_1 : List (S103)) (x4_1 : Int), v4 = .int .i64 x4_1 ∧ iC (stratumref07_CopyFacts.l0 kq l0 x3_1 x4_1 = some r) ∧ iC (kq ≤ k) ∧ iC (Kd.R k103 103 w' w.heap.size (fun _ => True) v3 x3_1) ∧ iC (Below w.heap.size w w'))
  case atStart => exact ⟨(([] : List (S103))), (0), (by first | rfl | (simp; done) | (simp [*]; done)), H', ⟨Nat.le_refl _⟩, ⟨by first | exact Kd.R_nil _ _ _ _ _ | exact Kd.N_nil _ _ _ _ _ | exact Kd.V_nil _ _ _ _ _ | exact Kd.Q_nil _ _ _ _ _ | exact Kd.S_nil _ _ _ _ _⟩, ⟨hb_⟩⟩
  case round =>
    clear H'
    obtain ⟨x3_1, x4_1, rfl, HA, HK1, HO_3, HB⟩ := hrel
    cases gk with
    | zero => exact absurd HA.out (by simp [stratumref07_CopyFacts.l0])
    | succ k1 =>
      have H := HA.out
      clear HA
      simp only [stratumref07_CopyFacts.l0] at H
      by_cases c2 : x4_1 < (l0.length : Int)
      · rw [if_pos c2] at H
        have c2b0 : decide (x4_1 < (l0.length : Int)) = true := decide_eq_true c2
        clear c2
        by_cases c3 : 0 ≤ x4_1
        · rw [if_pos c3] at H
          have c3b0 : decide (0 ≤ x4_1) = true := decide_eq_true c3
          clear c3
          by_cases c4 : ([] : List Int).length + ((iW l0 x4_1).f0).length < 17592186044416
          · rw [if_pos c4] at H
            have LMc4 := iC.mk c4
            clear c4
            obtain ⟨y378, hy378⟩ : ∃ y_ : List Int, y_ = (([] : List Int) ++ ((iW l0 x4_1).f0)) := ⟨_, rfl⟩
            replace H : (if x3_1.length < 4398046511104 then (stratumref07_CopyFacts.l0 k1 l0 (x3_1 ++ [(⟨y378, (iW l0 x4_1).f1⟩ : S103)]) (wrap64 (x4_1 + 1))) else (none)) = some r := by first | (rw [hy378]; with_reducible exact H) | (have H2_ := (Option.bind_some _ _).symm.trans H; rw [hy378]; with_reducible exact H2_) | (have H2_ := (Option.bind_some _ _).symm.trans H; with_reducible exact H2_) | with_reducible exact H | (rw [hy378]; exact H) | exact H
            have Ny378 := iC.mk hy378
            clear hy378
            by_cases c5 : x3_1.length < 4398046511104
            · rw [if_pos c5] at H
              have LMc5 := iC.mk c5
              clear c5
              obtain ⟨y382, hy382⟩ : ∃ y_ : List (S103), y_ = (x3_1 ++ [(⟨y378, (iW l0 x4_1).f1⟩ : S103)]) := ⟨_, rfl⟩
              replace H : (stratumref07_CopyFacts.l0 k1 l0 y382 (wrap64 (x4_1 + 1))) = some r := by first | (rw [hy382]; with_reducible exact H) | (have H2_ := (Option.bind_some _ _).symm.trans H; rw [hy382]; with_reducible exact H2_) | (have H2_ := (Option.bind_some _ _).symm.trans H; with_reducible exact H2_) | with_reducible exact H | (rw [hy382]; exact H) | exact H
              have Ny382 := iC.mk hy382
              clear hy382
              have H' := iC.mk H
              clear H
              have p377 : 0 ≤ (x4_1 : Int) := of_decide_eq_true asm_
              have q377 : x4_1 < (l0.length : Int) := of_decide_eq_true asm_
              obtain ⟨ad377, A377_0, c377_0, e377, hx377_0, hx377_1, hl377_0, hi377_0⟩ := kN HR0.out x4_1 p377 q377
              cases e377
              replace hx377_0 := (HB.out.cell (World.block_lt_of_cell? w _ hx377_0)).trans hx377_0
              replace hx377_1 := (HB.out.cell (World.block_lt_of_cell? w _ hx377_1)).trans hx377_1
              have HR377_0 := iC.mk hi377_0
              have HC377_0 := iC.mk hl377_0
              clear hi377_0 hl377_0
              replace p377 := eq_true p377
              replace q377 := eq_true q377
              go_wp2_with (first | ((with_reducible refine jR (b := .append) (xs := #[.tmp 12, .tmp 17]) rfl ?_); at_builtin; refine Kd.R_append_rows (Kd.int .i64) (w0 := w) w.heap.size rfl (.tmp 12) (.tmp 17) 25 3 (.int .i64 0) 8 rfl Try.underlying25 info3 rfl (by decide) (by omega) (.slice none 0 0) ([] : List Int) ((iW l0 x4_1).f0) _ _ _ (fun _ => True) (fun _ => False) rfl rfl ?aO ?aR (fun _ _ h => h) (fun _ h => h.elim) ?aF ?aB ?aS ?aL ?_; (case aR => repeat (first | exact (Kd.C_below HR377_0.out HB.out) | (with_reducible refine Kd.C_alloc ?_ _) | (with_reducible refine Kd.C_drewN ?_ _) | (with_reducible refine Kd.C_drew ?_))); (case aB => exact hb_); (case aF => exact (fun _ _ => trivial)); (case aO => exact ((Kd.R_nil _ _ _ _ (fun _ => True)))); (case aS => exact (iJ hb_)); (case aL => have := LMc4.out; omega); intro v379 w6 ho hb hg hat; rw [← Ny378.out] at ho; have n0_ := iC.mk (Kd.R_after (Kd.R_apart_nil (by (with_reducible repeat (first | apply Kd.R_alloc | apply Kd.R_drewN | apply Kd.R_drew)); exact HO_3.out)) hg hat); have n1_ := iC.mk (hb); have n2_ := iC.mk (ho); clear HO_3; clear HB; have HO_3 := n0_; have HB := n1_; have HO380 := n2_; clear n0_ n1_ n2_; clear ho hb hg hat; have p381 : 0 ≤ (x4_1 : Int) := of_decide_eq_true asm_; have q381 : x4_1 < (l0.length : Int) := of_decide_eq_true asm_; obtain ⟨ad381, A381_0, c381_0, e381, hx381_0, hx381_1, hl381_0, hi381_0⟩ := kN HR0.out x4_1 p381 q381; obtain rfl : ad377 = ad381 := (by injection e381); replace hx381_0 := (HB.out.cell (World.block_lt_of_cell? w _ hx381_0)).trans hx381_0; replace hx381_1 := (HB.out.cell (World.block_lt_of_cell? w _ hx381_1)).trans hx381_1; have HR381_0 := iC.mk hi381_0; have HC381_0 := iC.mk hl381_0; clear hi381_0 hl381_0; replace p381 := eq_true p381; replace q381 := eq_true q381; obtain ⟨Ao7, co7, eo7⟩ := Kd.R_slice HO380.out; subst eo7) | ((with_reducible refine jR (b := .append) (xs := #[.tmp 19, .tmp 27]) rfl ?_); at_builtin; refine Kd.R_append k103 (w0 := w) w.heap.size rfl (.tmp 19) (.tmp 27) 45 103 (.agg #[(.slice none 0 0), (.int .i64 0)]) 32 rfl Try.underlying45 qQ rfl (by decide) (by omega) u3 x3_1 (⟨y378, (iW l0 x4_1).f1⟩ : S103) [.slice Ao7 y378.length co7, .int .i64 ((iW l0 x4_1).f1)] (fun _ => True) (fun k_ => ((fun _ => True)) k_ ∧ some k_ ≠ (u3 : Value).ownBlock) rfl rfl ?aP (fun _ hk => hk) ?aF ?aO ?aB ?aS ?aL ?_; (case aP => exact rQ _ _ _ (⟨y378, (iW l0 x4_1).f1⟩ : S103) (Kd.R_mono (Kd.R_apart' (HO380.out) (Kd.R_typed HO_3.out) (by decide)) (fun k_ hk => ⟨trivial, hk.2⟩))); (case aB => exact hb_); (case aF => exact (fun _ _ => trivial)); (case aO => exact (by (with_reducible repeat (first | apply Kd.R_alloc | apply Kd.R_drewN | apply Kd.R_drew)); exact Kd.R_mono HO_3.out (fun _ hk => trivial))); (case aS => exact (iJ hb_)); (case aL => have := LMc5.out; omega); intro v383 w8 ho hb hg hat; rw [← Ny382.out] at ho; have n0_ := iC.mk (hb); have n1_ := iC.mk (ho); clear HB; clear HO_3; clear HO380; have HB := n0_; have HO384 := n1_; clear n0_ n1_; clear ho hb hg hat))
              go_roundg k1
              case measure => have := HK1.out; omega
              case rel => exact ⟨(y382), (wrap64 (x4_1 + 1)), (by first | rfl | (simp; done) | (simp [*]; done)), H', ⟨by have := HK1.out; omega⟩, ⟨by (with_reducible repeat (first | apply Kd.R_alloc | apply Kd.R_drewN | apply Kd.R_drew)); exact HO384.out⟩, ⟨hb_⟩⟩
            · rw [if_neg c5] at H
              exact absurd H (by simp)
          · rw [if_neg c4] at H
            exact absurd H (by simp)
        · rw [if_neg c3] at H
          exact absurd H (by simp)
      · rw [if_neg c2] at H
        have c2b0 : decide (x4_1 < (l0.length : Int)) = false := decide_eq_false c2
        clear c2
        obtain rfl := Option.some.inj H
        go_wp2
        go_ret
        exact ⟨_, by first | rfl | (simp [iU, iV] <;> rfl) | (simp [*, iU, iV] <;> rfl), by (with_reducible repeat (first | apply Kd.R_alloc | apply Kd.R_drewN | apply Kd.R_drew)); exact HO_3.out, hb_⟩
end Go.Proofs.Ytjppookmjdaplaa.K
end
