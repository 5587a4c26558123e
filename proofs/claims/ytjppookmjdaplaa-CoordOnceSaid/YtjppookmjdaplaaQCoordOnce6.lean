/- Parts of the proof, one behind the other: K6, SpH0, CoM, OnP, TwA. -/
import Derived.Test.YtjppookmjdaplaaQCoordOnce5
set_option linter.unusedVariables false
set_option linter.unusedSimpArgs false
section
namespace Go.Proofs.Ytjppookmjdaplaa.K
open Go.RowKit Go.Proofs.YtjppookmjdaplaaW.PrintWords Go.Proofs.YtjppookmjdaplaaW.PrintLast Go.Proofs.YtjppookmjdaplaaW.PrintMore
attribute [local go_sem] jV kJ
mutual
def stratumlaw12_Of.l0 : Nat → Int → Int → List (S91) → Int → Int → List (S96) → Option (Int × (List (S96)))
  | 0, _, _, _, _, _, _ => none
  | k + 1, x0, x1, x2, x8, x137000, x137001 => if x8 < (x2.length : Int) then (stratumlaw12_Of.j1 k x0 x1 x2 x8 (decide (x8 < 30)) x137000 x137001) else (stratumlaw12_Of.j1 k x0 x1 x2 x8 false x137000 x137001)
def stratumlaw12_Of.j1 : Nat → Int → Int → List (S91) → Int → Bool → Int → List (S96) → Option (Int × (List (S96)))
  | 0, _, _, _, _, _, _, _ => none
  | k + 1, x0, x1, x2, x8, x21, x137000, x137001 => if x21 = true then (if 0 ≤ x8 then (if x8 < (x2.length : Int) then (if x0 = 0 then (none) else (if (wrap64 (x0 - (Int.tmod (wrap64 ((jB x2 x8).f0)) x0))) = 0 then (none) else (if x1 = 0 then (none) else ((stratumref12_Split.f k x137000 x137001 x0 x1 (Int.tmod (wrap64 ((jB x2 x8).f0)) x0) (wrap64 ((wrap64 ((Int.tmod (wrap64 ((jB x2 x8).f0)) x0) + 1)) + (Int.tmod (wrap64 ((jB x2 x8).f1)) (wrap64 (x0 - (Int.tmod (wrap64 ((jB x2 x8).f0)) x0)))))) (Int.tmod (wrap64 ((jB x2 x8).f2)) x1)).bind fun bt140 => (if bt140.2.2 = 0 then (stratumlaw12_Of.l0 k x0 x1 x2 (wrap64 (x8 + 1)) bt140.1 bt140.2.1) else (stratumlaw12_Of.l0 k x0 x1 x2 (wrap64 (x8 + 1)) x137000 x137001)))))) else (none)) else (none)) else (some (x137000, x137001))
end
def stratumlaw12_Of.f (k : Nat) (a0 : Int) (a1 : Int) (l2 : List (S91)) : Option (Int × (List (S96))) := (stratumref12_New.f).bind fun bt132 => (stratumlaw12_Of.l0 k a0 a1 l2 0 bt132.1 bt132.2)
def stratumlaw12_Of.T7 : Bool × List (List Nat × List Nat) := (true, [([], []), ([], []), ([], []), ([], []), ([], []), ([], []), ([], []), ([5, 6], [5, 6]), ([7], [7]), ([8], [8]), ([9], [9]), ([], []), ([10, 11], [10, 11]), ([0, 1, 2, 3, 4, 12], [0, 1, 2, 3, 4, 12]), ([13], [13]), ([14], [14]), ([14], [14]), ([], []), ([17, 15, 13, 0, 1, 2, 3, 4, 5, 6, 7, 8, 9, 10, 11, 12, 13, 14, 15, 17], [15, 17]), ([16, 18, 0, 1, 2, 3, 4, 5, 6, 7, 8, 9, 10, 11, 12, 13, 14, 15, 16, 17, 18], [16])])
def stratumlaw12_Of.B7 : List Nat := [0, 0, 0, 0, 0, 0, 0, 96, 224, 480, 992, 0, 4064, 8191, 16383, 32767, 32767, 0, 196607, 524287]
theorem stratumlaw12_Of.tab7 : rtab .any (opsOf Try.f17 7) = stratumlaw12_Of.T7 := by kernel_rfl
theorem stratumlaw12_Of.bits7 : lC stratumlaw12_Of.T7.2 stratumlaw12_Of.B7 = true := by kernel_rfl
set_option maxHeartbeats 8000000 in
set_option maxRecDepth 100000 in
theorem stratumlaw12_Of.calls (k : Nat) (a0 : Int) (a1 : Int) (A2 : Option Addr) (c2 : Nat) (l2 : List (S91)) (r1 : Int) (r2 : List (S96)) (w : World) (hr2 : Kd.C k91 w A2 l2.length l2) (hc2 : l2.length ≤ c2) (h : stratumlaw12_Of.f k a0 a1 l2 = some (r1, r2)) :
    Calls Try.prog 17 #[.int .i64 a0, .int .i64 a1, .slice A2 l2.length c2] w fun e w' => ∃ v1_ : Value, e = .returned (.agg #[.int .u32 r1, v1_]) ∧ Kd.R k96 96 w' w.heap.size (fun _ => True) v1_ r2 ∧ Below w.heap.size w w' := by
  have hu42 := Try.underlying42
  have HR2 := iC.mk hr2
  have HC2 := iC.mk hc2
  clear hr2 hc2
  have HB := iC.mk (Below.refl w.heap.size w)
  have H : ((stratumref12_New.f).bind fun bt132 => (stratumlaw12_Of.l0 k a0 a1 l2 0 bt132.1 bt132.2)) = some (r1, r2) := h
  clear h
  replace H := Option.bind_eq_some_iff.mp H
  obtain ⟨⟨t132, t133⟩, A40, H⟩ := H
  replace H : (stratumlaw12_Of.l0 k a0 a1 l2 0 t132 t133) = some (r1, r2) := H
  have A4 := iC.mk A40
  clear A40
  have H' := iC.mk H
  clear H
  go_enter Try.func17, Try.ntmps17
  go_wp2_with (first | ((with_reducible refine kL (N := 6) rfl ?_); refine kF ?hg (N := 6) ?hd (cs := #[.int .u32 0, .slice none 0 0]) (t := 42) ?hr ?_; (case hd => rfl); (case hg => rfl); (case hr => first | (go_simp; done) | (go_simp; rfl)); intro gb131 hg w5 hbox hb; have n0_ := iC.mk (iQ hb_ hb); have n1_ := iC.mk (hbox); have n2_ := iC.mk ((by rw [hg]; exact (iW hb_) : w.heap.size ≤ gb131)); have n3_ := iC.mk ((by rw [hg]; exact (iW hb_) : w.heap.size ≤ gb131)); clear HB; have HB := n0_; have BK131 := n1_; have GW131 := n2_; have GE131 := n3_; clear n0_ n1_ n2_ n3_; clear hb hbox hg) | ((with_reducible refine jY (f := 45) rfl ?_); refine nV (some 13) rfl rfl Try.func45 (by kernel_rfl) rfl #[] rfl (by (try simp only [List.map_toArray, List.map_cons, List.map_nil]); first | done | rfl | (simp only [List.length_drop, List.length_take]; rfl)) ?_; (with_reducible refine (stratumref12_New.calls  t132 t133 _ A4.out).mono ?_); rintro e w6 ⟨v134, rfl, ho0, hb⟩; refine ⟨_, rfl, ?_⟩; have n0_ := iC.mk (Kd.R_lower ho0 (iW (by repeat (first | (with_reducible first | exact HB.out | apply iF | apply iG | apply iL | refine iH ?_ GE131.out) | exact HB.out)))); have n1_ := iC.mk (iY (g := gb131) (o := .cells #[.int .u32 0, .slice none 0 0] 42 (0, 0)) (bk_ BK131.out) hb); have n2_ := iC.mk (iQ (by repeat (first | (with_reducible first | exact HB.out | apply iF | apply iG | apply iL | refine iH ?_ GE131.out) | exact HB.out)) hb); clear BK131; clear HB; have HO135 := n0_; have BK131 := n1_; have HB := n2_; clear n0_ n1_ n2_; (try clear hb); (try clear hb2); (try clear hk); (try clear hi); (try clear ho0)) | ((with_reducible refine kL (N := 7) rfl ?_); refine kF ?hg (N := 7) ?hd (cs := #[.int .u32 0, .slice none 0 0]) (t := 42) ?hr ?_; (case hd => rfl); (case hg => rfl); (case hr => first | (go_simp; done) | (go_simp; rfl)); intro gb136 hg w7 hbox hb; have n0_ := iC.mk (Kd.R_below (by (with_reducible repeat (first | apply Kd.R_alloc | apply Kd.R_drewN | apply Kd.R_drew)); exact HO135.out) hb); have n1_ := iC.mk (iY (g := gb131) (o := .cells #[.int .u32 0, .slice none 0 0] 42 (0, 0)) (bk_ BK131.out) hb); have n2_ := iC.mk (iQ (by repeat (first | (with_reducible first | exact HB.out | apply iF | apply iG | apply iL | refine iH ?_ GE131.out) | exact HB.out)) hb); have n3_ := iC.mk (hbox); have n4_ := iC.mk ((by rw [hg]; exact (iW (by repeat (first | (with_reducible first | exact HB.out | apply iF | apply iG | apply iL | refine iH ?_ GE131.out) | exact HB.out))) : w.heap.size ≤ gb136)); have n5_ := iC.mk ((by rw [hg]; exact (iW (by repeat (first | (with_reducible first | exact HB.out | apply iF | apply iG | apply iL | refine iH ?_ GE131.out) | exact HB.out))) : w.heap.size ≤ gb136)); have n6_ := iC.mk ((by rw [hg]; exact Nat.ne_of_lt (jJ (g := gb131) (o := .cells #[.int .u32 0, .slice none 0 0] 42 (0, 0)) (bk_ BK131.out)) : gb131 ≠ gb136)); have n7_ := iC.mk ((by rw [hg]; exact Nat.ne_of_gt (jJ (g := gb131) (o := .cells #[.int .u32 0, .slice none 0 0] 42 (0, 0)) (bk_ BK131.out)) : gb136 ≠ gb131)); clear HO135; clear BK131; clear HB; have HO135 := n0_; have BK131 := n1_; have HB := n2_; have BK136 := n3_; have GW136 := n4_; have GE136 := n5_; have NB131_136 := n6_; have NB136_131 := n7_; clear n0_ n1_ n2_ n3_ n4_ n5_ n6_ n7_; clear hb hbox hg; have hnb8 := NB136_131.out; have hnc8 := NB131_136.out; have hcz9_0 : w7.cell? ⟨gb136, 0, none⟩ = some (.int .u32 0) := (iD BK136.out 0).trans rfl; have hcz9_1 : w7.cell? ⟨gb136, 1, none⟩ = some (.slice none 0 0) := (iD BK136.out 1).trans rfl; have hfz9_0 := iE BK136.out 0; have hfz9_1 := iE BK136.out 1; obtain ⟨Ao10, co10, eo10⟩ := Kd.R_slice HO135.out; subst eo10))
  go_loopg [8] k (fun kq v8 w' => ∃ (x8_1 : Int) (x137000_1 : Int) (x137001_1 : List (S96)) (u137001 : Value), v8 = .int .i64 x8_1 ∧ iC (stratumlaw12_Of.l0 kq a0 a1 l2 x8_1 x137000_1 x137001_1 = some (r1, r2)) ∧ iC (kq ≤ k) ∧ iC (Kd.R k96 96 w' w.heap.size (fun _ => True) u137001 x137001_1) ∧ iC (w'.heap[gb131]? = some (.cells #[.int .u32 0, (.slice none 0 0)] 42 (0, 0))) ∧ iC (w'.heap[gb136]? = some (.cells #[.int .u32 x137000_1, u137001] 42 (0, 0))) ∧ iC (Below w.heap.size w w'))
  case atStart => exact ⟨(0), (t132), (t133), (.slice Ao10 t133.length co10), (by first | rfl | (simp; done) | (simp [*]; done)), H', ⟨Nat.le_refl _⟩, ⟨by (with_reducible repeat (first | apply Kd.R_alloc | apply Kd.R_drewN | apply Kd.R_drew)); exact Kd.R_mono (Kd.R_far (p := ⟨gb136, 1, none⟩) (Kd.R_far (p := ⟨gb136, 0, none⟩) (Kd.R_types HO135.out BK136.out (by decide)) (fun _ hk => hk.2) (.int .u32 t132)) (fun _ hk => hk.2) (.slice Ao10 t133.length co10)) (fun _ hk => trivial)⟩, ⟨by (with_reducible repeat (first | refine iR ?_ _ | refine iU ?_ | refine iO ?_ _)); refine jT ?_ NB131_136.out _; (with_reducible repeat (first | refine iR ?_ _ | refine iU ?_ | refine iO ?_ _)); refine jT ?_ NB131_136.out _; (with_reducible repeat (first | refine iR ?_ _ | refine iU ?_ | refine iO ?_ _)); exact BK131.out⟩, ⟨by (with_reducible repeat (first | refine iR ?_ _ | refine iU ?_ | refine iO ?_ _)); refine iZ (cs := #[.int .u32 t132, .slice none 0 0]) ?_ 1 _ rfl; (with_reducible repeat (first | refine iR ?_ _ | refine iU ?_ | refine iO ?_ _)); refine iZ (cs := #[.int .u32 0, .slice none 0 0]) ?_ 0 _ rfl; (with_reducible repeat (first | refine iR ?_ _ | refine iU ?_ | refine iO ?_ _)); exact BK136.out⟩, ⟨by repeat (first | (with_reducible first | exact HB.out | apply iF | apply iG | apply iL | refine iH ?_ GE131.out | refine iH ?_ GE136.out) | exact HB.out)⟩⟩
  case round =>
    clear H'
    try clear c1
    try clear c2
    try clear p2
    try clear c4
    try clear c8
    try clear hcz9_0
    try clear hcz9_1
    try clear hfz9_0
    try clear hfz9_1
    obtain ⟨x8_1, x137000_1, x137001_1, u137001, rfl, HA, HK1, HO_137001, BK131, BK136, HB⟩ := hrel
    cases gk with
    | zero => exact absurd HA.out (by simp [stratumlaw12_Of.l0])
    | succ k1 =>
      have H := HA.out
      clear HA
      simp only [stratumlaw12_Of.l0] at H
      have HC11 := iC.mk H
      clear H
      go_upto_region 3 with (fail)
      go_cut [21] (fun v21 wc => ∃ (kq : Nat) (x21_10 : Bool), v21 = .bool x21_10 ∧ iC (stratumlaw12_Of.j1 kq a0 a1 l2 x8_1 x21_10 x137000_1 x137001_1 = some (r1, r2)) ∧ iC (kq ≤ k1) ∧ iC (Kd.R k96 96 wc w.heap.size (fun _ => True) u137001 x137001_1) ∧ iC (wc.heap[gb131]? = some (.cells #[.int .u32 0, (.slice none 0 0)] 42 (0, 0))) ∧ iC (wc.heap[gb136]? = some (.cells #[.int .u32 x137000_1, u137001] 42 (0, 0))) ∧ iC (Below w.heap.size w wc))
      case first =>
        have H := HC11.out
        clear HC11
        by_cases c12 : x8_1 < (l2.length : Int)
        · rw [if_pos c12] at H
          have c12b0 : decide (x8_1 < (l2.length : Int)) = true := decide_eq_true c12
          clear c12
          (first | rw [c12b0] | (simp only [iJ, iK]; rw [c12b0]) | skip)
          have H' := iC.mk H
          clear H
          go_wp2
          go_meet
          case rel => exact ⟨_, (decide (x8_1 < 30)), (by first | rfl | (simp; done) | (simp [*]; done)), H', ⟨by have := HK1.out; first | omega | exact Nat.le_refl _⟩, ⟨by (with_reducible repeat (first | apply Kd.R_alloc | apply Kd.R_drewN | apply Kd.R_drew)); exact HO_137001.out⟩, ⟨bk_ BK131.out⟩, ⟨bk_ BK136.out⟩, ⟨by repeat (first | (with_reducible first | exact HB.out | apply iF | apply iG | apply iL | refine iH ?_ GE131.out | refine iH ?_ GE136.out) | exact HB.out)⟩⟩
        · rw [if_neg c12] at H
          have c12b0 : decide (x8_1 < (l2.length : Int)) = false := decide_eq_false c12
          clear c12
          (first | rw [c12b0] | (simp only [iJ, iK]; rw [c12b0]) | skip)
          have H' := iC.mk H
          clear H
          go_wp2
          go_meet
          case rel => exact ⟨_, (false), (by first | rfl | (simp; done) | (simp [*]; done)), H', ⟨by have := HK1.out; first | omega | exact Nat.le_refl _⟩, ⟨by (with_reducible repeat (first | apply Kd.R_alloc | apply Kd.R_drewN | apply Kd.R_drew)); exact HO_137001.out⟩, ⟨bk_ BK131.out⟩, ⟨bk_ BK136.out⟩, ⟨by repeat (first | (with_reducible first | exact HB.out | apply iF | apply iG | apply iL | refine iH ?_ GE131.out | refine iH ?_ GE136.out) | exact HB.out)⟩⟩
      case rest =>
        clear HC11
        try clear c1
        try clear c2
        try clear p2
        try clear c4
        try clear c8
        try clear c12
        try clear c12b0
        try clear hcz9_0
        try clear hcz9_1
        try clear hfz9_0
        try clear hfz9_1
        try clear p2
        obtain ⟨kq, x21_10, rfl, HA, HJ10, HO_137001, BK131, BK136, HB⟩ := hcut
        cases kq with
        | zero => exact absurd HA.out (by simp [stratumlaw12_Of.j1])
        | succ kj10 =>
          have H := HA.out
          clear HA
          simp only [stratumlaw12_Of.j1] at H
          by_cases c13 : x21_10 = true
          · subst c13
            have H1 : (if 0 ≤ x8_1 then (if x8_1 < (l2.length : Int) then (if a0 = 0 then (none) else (if (wrap64 (a0 - (Int.tmod (wrap64 ((jB l2 x8_1).f0)) a0))) = 0 then (none) else (if a1 = 0 then (none) else ((stratumref12_Split.f kj10 x137000_1 x137001_1 a0 a1 (Int.tmod (wrap64 ((jB l2 x8_1).f0)) a0) (wrap64 ((wrap64 ((Int.tmod (wrap64 ((jB l2 x8_1).f0)) a0) + 1)) + (Int.tmod (wrap64 ((jB l2 x8_1).f1)) (wrap64 (a0 - (Int.tmod (wrap64 ((jB l2 x8_1).f0)) a0)))))) (Int.tmod (wrap64 ((jB l2 x8_1).f2)) a1)).bind fun bt140 => (if bt140.2.2 = 0 then (stratumlaw12_Of.l0 kj10 a0 a1 l2 (wrap64 (x8_1 + 1)) bt140.1 bt140.2.1) else (stratumlaw12_Of.l0 kj10 a0 a1 l2 (wrap64 (x8_1 + 1)) x137000_1 x137001_1)))))) else (none)) else (none)) = some (r1, r2) := by rw [if_pos rfl] at H; exact H
            clear H
            have H := H1
            clear H1
            by_cases c14 : 0 ≤ x8_1
            · rw [if_pos c14] at H
              have c14b0 : decide (0 ≤ x8_1) = true := decide_eq_true c14
              clear c14
              by_cases c15 : x8_1 < (l2.length : Int)
              · rw [if_pos c15] at H
                have c15b0 : decide (x8_1 < (l2.length : Int)) = true := decide_eq_true c15
                clear c15
                by_cases c16 : a0 = 0
                · rw [if_pos c16] at H
                  exact absurd H (by simp)
                · rw [if_neg c16] at H
                  have c16b0 : (a0 == 0) = false := beq_eq_false_iff_ne.mpr c16
                  have c16b1 : (a0 != 0) = true := bne_iff_ne.mpr c16
                  by_cases c17 : (wrap64 (a0 - (Int.tmod (wrap64 ((jB l2 x8_1).f0)) a0))) = 0
                  · rw [if_pos c17] at H
                    exact absurd H (by simp)
                  · rw [if_neg c17] at H
                    have c17b0 : ((wrap64 (a0 - (Int.tmod (wrap64 ((jB l2 x8_1).f0)) a0))) == 0) = false := beq_eq_false_iff_ne.mpr c17
                    have c17b1 : ((wrap64 (a0 - (Int.tmod (wrap64 ((jB l2 x8_1).f0)) a0))) != 0) = true := bne_iff_ne.mpr c17
                    by_cases c18 : a1 = 0
                    · rw [if_pos c18] at H
                      exact absurd H (by simp)
                    · rw [if_neg c18] at H
                      have c18b0 : (a1 == 0) = false := beq_eq_false_iff_ne.mpr c18
                      have c18b1 : (a1 != 0) = true := bne_iff_ne.mpr c18
                      replace H := Option.bind_eq_some_iff.mp H
                      obtain ⟨⟨t140, t141, t144⟩, A190, H⟩ := H
                      replace H : (if t144 = 0 then (stratumlaw12_Of.l0 kj10 a0 a1 l2 (wrap64 (x8_1 + 1)) t140 t141) else (stratumlaw12_Of.l0 kj10 a0 a1 l2 (wrap64 (x8_1 + 1)) x137000_1 x137001_1)) = some (r1, r2) := H
                      have A19 := iC.mk A190
                      clear A190
                      by_cases c20 : t144 = 0
                      · rw [if_pos c20] at H
                        have c20b0 : (t144 == 0) = true := beq_iff_eq.mpr c20
                        have c20b1 : (t144 != 0) = false := bne_eq_false_iff_eq.mpr c20
                        clear c20
                        have H' := iC.mk H
                        clear H
                        have p137 : 0 ≤ (x8_1 : Int) := of_decide_eq_true asm_
                        have q137 : x8_1 < (l2.length : Int) := of_decide_eq_true asm_
                        obtain ⟨ad137, e137, hx137_0, hx137_1, hx137_2⟩ := qC HR2.out x8_1 p137 q137
                        cases e137
                        replace hx137_0 := (HB.out.cell (World.block_lt_of_cell? w _ hx137_0)).trans hx137_0
                        replace hx137_1 := (HB.out.cell (World.block_lt_of_cell? w _ hx137_1)).trans hx137_1
                        replace hx137_2 := (HB.out.cell (World.block_lt_of_cell? w _ hx137_2)).trans hx137_2
                        replace p137 := eq_true p137
                        replace q137 := eq_true q137
                        have p138 : 0 ≤ (x8_1 : Int) := of_decide_eq_true asm_
                        have q138 : x8_1 < (l2.length : Int) := of_decide_eq_true asm_
                        obtain ⟨ad138, e138, hx138_0, hx138_1, hx138_2⟩ := qC HR2.out x8_1 p138 q138
                        obtain rfl : ad137 = ad138 := (by injection e138)
                        replace hx138_0 := (HB.out.cell (World.block_lt_of_cell? w _ hx138_0)).trans hx138_0
                        replace hx138_1 := (HB.out.cell (World.block_lt_of_cell? w _ hx138_1)).trans hx138_1
                        replace hx138_2 := (HB.out.cell (World.block_lt_of_cell? w _ hx138_2)).trans hx138_2
                        replace p138 := eq_true p138
                        replace q138 := eq_true q138
                        obtain ⟨Ao21, co21, eo21⟩ := Kd.R_slice HO_137001.out
                        subst eo21
                        try go_wp2
                        have n0_ := iC.mk (Kd.R_drew HO_137001.out)
                        have n1_ := iC.mk (iU BK131.out)
                        have n2_ := iC.mk (iU BK136.out)
                        have n3_ := iC.mk (iL HB.out)
                        clear HO_137001
                        clear BK131
                        clear BK136
                        clear HB
                        have HO_137001 := n0_
                        have BK131 := n1_
                        have BK136 := n2_
                        have HB := n3_
                        clear n0_ n1_ n2_ n3_
                        have p139 : 0 ≤ (x8_1 : Int) := of_decide_eq_true asm_
                        have q139 : x8_1 < (l2.length : Int) := of_decide_eq_true asm_
                        obtain ⟨ad139, e139, hx139_0, hx139_1, hx139_2⟩ := qC HR2.out x8_1 p139 q139
                        have hw139_2 := hx139_2
                        have hw139_1 := hx139_1
                        have hw139_0 := hx139_0
                        obtain rfl : ad137 = ad139 := (by injection e139)
                        replace hx139_0 := (HB.out.cell (World.block_lt_of_cell? w _ hx139_0)).trans hx139_0
                        replace hx139_1 := (HB.out.cell (World.block_lt_of_cell? w _ hx139_1)).trans hx139_1
                        replace hx139_2 := (HB.out.cell (World.block_lt_of_cell? w _ hx139_2)).trans hx139_2
                        replace p139 := eq_true p139
                        replace q139 := eq_true q139
                        refine jQ (n := 20) (S := fun w' => w'.cell? ⟨gb136, 0, none⟩ = some (.int .u32 x137000_1) ∧ w'.cell? ⟨gb136, 1, none⟩ = some (.slice Ao21 x137001_1.length co21) ∧ w'.cell? (ad137.add ((x8_1).toNat * 3)) = some (.int .u16 ((jB l2 x8_1).f0)) ∧ w'.cell? ⟨(ad137.add ((x8_1).toNat * 3)).block, (ad137.add ((x8_1).toNat * 3)).off + 1, none⟩ = some (.int .u16 ((jB l2 x8_1).f1)) ∧ w'.cell? ⟨(ad137.add ((x8_1).toNat * 3)).block, (ad137.add ((x8_1).toNat * 3)).off + 2, none⟩ = some (.int .u8 ((jB l2 x8_1).f2))) (ds := []) #[false, false, false, false, false, false, false, false, false, false, false, false, false, false, false, false, false, false, false, false] (by kernel_rfl) rfl rfl ⟨(iD BK136.out 0).trans rfl, (iD BK136.out 1).trans rfl, ((HB.out.cell (World.block_lt_of_cell? w _ hw139_0)).trans hw139_0), ((HB.out.cell (World.block_lt_of_cell? w _ hw139_1)).trans hw139_1), ((HB.out.cell (World.block_lt_of_cell? w _ hw139_2)).trans hw139_2)⟩ (fun hHeld => ?_); refine jE stratumlaw12_Of.tab7 stratumlaw12_Of.bits7 (fun HT_ HW_ => ?_)
                        generalize wc.drew = w22 at HO_137001 BK131 BK136 HB hx139_0 hx139_1 hx139_2 hHeld ⊢
                        refine iM (i := 1) (N := some 47) (v := ?_) (a' := ?_) #[false, true, false, false, false, false, false, false, false, false, false, false, false, false, false, false, false, false, false, false] rfl rfl (iI HT_.out (by kernel_rfl)) (fun _ _ _ h => h) (Or.inl ⟨by rfl, ?_⟩) ?_ ?_
                        rotate_left
                        · intro w'
                          go_simp
                          with_reducible rfl
                        rotate_left
                        · simp only [Act.put, List.setIfInBounds_toArray, List.set_cons_zero, List.set_cons_succ, iJ, iK]
                          rfl
                        refine iM (i := 2) (N := some 48) (v := ?_) (a' := ?_) #[false, true, true, false, false, false, false, false, false, false, false, false, false, false, false, false, false, false, false, false] rfl rfl (iI HT_.out (by kernel_rfl)) (fun _ _ _ h => h) (Or.inl ⟨by rfl, ?_⟩) ?_ ?_
                        rotate_left
                        · intro w'
                          go_simp
                          with_reducible rfl
                        rotate_left
                        · simp only [Act.put, List.setIfInBounds_toArray, List.set_cons_zero, List.set_cons_succ, iJ, iK]
                          rfl
                        refine iM (i := 3) (N := some 49) (v := ?_) (a' := ?_) #[false, true, true, true, false, false, false, false, false, false, false, false, false, false, false, false, false, false, false, false] rfl rfl (iI HT_.out (by kernel_rfl)) (fun _ _ _ h => h) (Or.inl ⟨by rfl, ?_⟩) ?_ ?_
                        rotate_left
                        · intro w'
                          go_simp
                          with_reducible rfl
                        rotate_left
                        · simp only [Act.put, List.setIfInBounds_toArray, List.set_cons_zero, List.set_cons_succ, iJ, iK]
                          rfl
                        refine iM (i := 4) (N := some 50) (v := ?_) (a' := ?_) #[false, true, true, true, true, false, false, false, false, false, false, false, false, false, false, false, false, false, false, false] rfl rfl (iI HT_.out (by kernel_rfl)) (fun _ _ _ h => h) (Or.inl ⟨by rfl, ?_⟩) ?_ ?_
                        rotate_left
                        · intro w'
                          go_simp
                          with_reducible rfl
                        rotate_left
                        · simp only [Act.put, List.setIfInBounds_toArray, List.set_cons_zero, List.set_cons_succ, iJ, iK]
                          rfl
                        refine iM (i := 5) (N := some 51) (v := ?_) (a' := ?_) #[false, true, true, true, true, true, false, false, false, false, false, false, false, false, false, false, false, false, false, false] rfl rfl (iI HT_.out (by kernel_rfl)) (fun _ _ _ h => h) (Or.inl ⟨by rfl, ?_⟩) ?_ ?_
                        rotate_left
                        · intro w'
                          go_simp
                          with_reducible rfl
                        rotate_left
                        · simp only [Act.put, List.setIfInBounds_toArray, List.set_cons_zero, List.set_cons_succ, iJ, iK]
                          rfl
                        refine iM (i := 6) (N := some 52) (v := ?_) (a' := ?_) #[false, true, true, true, true, true, true, false, false, false, false, false, false, false, false, false, false, false, false, false] rfl rfl (iI HT_.out (by kernel_rfl)) (fun _ _ _ h => h) (Or.inl ⟨by rfl, ?_⟩) ?_ ?_
                        rotate_left
                        · intro w'
                          go_simp
                          with_reducible rfl
                        rotate_left
                        · simp only [Act.put, List.setIfInBounds_toArray, List.set_cons_zero, List.set_cons_succ, iJ, iK]
                          rfl
                        refine iM (i := 7) (N := some 53) (v := ?_) (a' := ?_) #[false, true, true, true, true, true, true, true, false, false, false, false, false, false, false, false, false, false, false, false] rfl rfl (iI HT_.out (by kernel_rfl)) (fun _ _ _ h => h) (Or.inl ⟨by rfl, ?_⟩) ?_ ?_
                        rotate_left
                        · intro w'
                          go_simp
                          with_reducible rfl
                        rotate_left
                        · simp only [Act.put, List.setIfInBounds_toArray, List.set_cons_zero, List.set_cons_succ, iJ, iK]
                          rfl
                        refine iM (i := 8) (N := some 54) (v := ?_) (a' := ?_) #[false, true, true, true, true, true, true, true, true, false, false, false, false, false, false, false, false, false, false, false] rfl rfl (iI HT_.out (by kernel_rfl)) (fun _ _ _ h => h) (Or.inl ⟨by rfl, ?_⟩) ?_ ?_
                        rotate_left
                        · intro w'
                          go_simp
                          with_reducible rfl
                        rotate_left
                        · simp only [Act.put, List.setIfInBounds_toArray, List.set_cons_zero, List.set_cons_succ, iJ, iK]
                          rfl
                        refine iM (i := 11) (N := some 57) (v := ?_) (a' := ?_) #[false, true, true, true, true, true, true, true, true, false, false, true, false, false, false, false, false, false, false, false] rfl rfl (iI HT_.out (by kernel_rfl)) (fun _ _ _ h => h) (Or.inl ⟨by rfl, ?_⟩) ?_ ?_
                        rotate_left
                        · intro w'
                          go_simp
                          with_reducible rfl
                        rotate_left
                        · simp only [Act.put, List.setIfInBounds_toArray, List.set_cons_zero, List.set_cons_succ, iJ, iK]
                          rfl
                        refine jH (i := 0) (N := some 46) (v := ?_) (a' := ?_) #[true, true, true, true, true, true, true, true, true, false, false, true, false, false, false, false, false, false, false, false] rfl rfl (iT HT_.out HW_.out (by kernel_rfl)) (fun _ _ _ h => h) (Or.inl ⟨by rfl, ?_⟩) hHeld ?_ ?_
                        rotate_left
                        · rintro w' ⟨s0, s1, s2, s3, s4⟩
                          go_simp
                          with_reducible rfl
                        rotate_left
                        · simp only [Act.put, List.setIfInBounds_toArray, List.set_cons_zero, List.set_cons_succ, iJ, iK]
                          rfl
                        refine jH (i := 9) (N := some 55) (v := ?_) (a' := ?_) #[true, true, true, true, true, true, true, true, true, true, false, true, false, false, false, false, false, false, false, false] rfl rfl (iT HT_.out HW_.out (by kernel_rfl)) (fun _ _ _ h => h) (Or.inl ⟨by rfl, ?_⟩) hHeld ?_ ?_
                        rotate_left
                        · rintro w' ⟨s0, s1, s2, s3, s4⟩
                          go_simp
                          with_reducible rfl
                        rotate_left
                        · simp only [Act.put, List.setIfInBounds_toArray, List.set_cons_zero, List.set_cons_succ, iJ, iK]
                          rfl
                        refine iM (i := 10) (N := some 56) (v := ?_) (a' := ?_) #[true, true, true, true, true, true, true, true, true, true, true, true, false, false, false, false, false, false, false, false] rfl rfl (iI HT_.out (by kernel_rfl)) (fun _ _ _ h => h) (Or.inl ⟨by rfl, ?_⟩) ?_ ?_
                        rotate_left
                        · intro w'
                          go_simp
                          with_reducible rfl
                        rotate_left
                        · simp only [Act.put, List.setIfInBounds_toArray, List.set_cons_zero, List.set_cons_succ, iJ, iK]
                          rfl
                        refine iM (i := 12) (N := some 58) (v := ?_) (a' := ?_) #[true, true, true, true, true, true, true, true, true, true, true, true, true, false, false, false, false, false, false, false] rfl rfl (iI HT_.out (by kernel_rfl)) (fun _ _ _ h => h) (Or.inl ⟨by rfl, ?_⟩) ?_ ?_
                        rotate_left
                        · intro w'
                          go_simp
                          with_reducible rfl
                        rotate_left
                        · simp only [Act.put, List.setIfInBounds_toArray, List.set_cons_zero, List.set_cons_succ, iJ, iK]
                          rfl
                        refine MG (σ := Value × Nat) 2 #[true, true, true, true, true, true, true, true, true, true, true, true, true, true, true, true, true, true, false, false] (fun s_ => [(59, .tuple #[.agg #[.int .u32 t140, s_.1], .int .i64 t144]), (11, .pointer (some ⟨s_.2, 0, none⟩)), (45, .tuple #[.agg #[.int .u32 t140, s_.1], .int .i64 t144]), (60, .agg #[.int .u32 t140, s_.1]), (61, .int .i64 t144)]) (fun s_ w' => (w'.cell? ⟨gb136, 0, none⟩ = some (.int .u32 x137000_1) ∧ w'.cell? ⟨gb136, 1, none⟩ = some (.slice Ao21 x137001_1.length co21) ∧ w'.cell? (ad137.add ((x8_1).toNat * 3)) = some (.int .u16 ((jB l2 x8_1).f0)) ∧ w'.cell? ⟨(ad137.add ((x8_1).toNat * 3)).block, (ad137.add ((x8_1).toNat * 3)).off + 1, none⟩ = some (.int .u16 ((jB l2 x8_1).f1)) ∧ w'.cell? ⟨(ad137.add ((x8_1).toNat * 3)).block, (ad137.add ((x8_1).toNat * 3)).off + 2, none⟩ = some (.int .u8 ((jB l2 x8_1).f2))) ∧ (Kd.R k96 96 w' w.heap.size (fun k_ => some k_ ≠ (.slice Ao21 x137001_1.length co21 : Value).ownBlock) s_.1 t141) ∧ (Kd.R k96 96 w' w.heap.size (fun k_ => some k_ ≠ (s_.1 : Value).ownBlock) (.slice Ao21 x137001_1.length co21) x137001_1) ∧ (w'.heap[gb131]? = some (.cells #[.int .u32 0, .slice none 0 0] 42 (0, 0))) ∧ (w'.heap[gb136]? = some (.cells #[.int .u32 x137000_1, .slice Ao21 x137001_1.length co21] 42 (0, 0))) ∧ (w'.heap[s_.2]? = some (.cells #[.int .u32 0, .slice none 0 0] 42 (0, 0))) ∧ (w.heap.size ≤ s_.2) ∧ (w.heap.size ≤ s_.2) ∧ (gb131 ≠ s_.2) ∧ (s_.2 ≠ gb131) ∧ (gb136 ≠ s_.2) ∧ (s_.2 ≠ gb136) ∧ (Below w.heap.size w w')) ?_ ?_
                        rotate_left
                        · intro hCont
                          refine two_ (i := 13) (j := 17) (Ni := some 59) (Nj := some 11) #[true, true, true, true, true, true, true, true, true, true, true, true, true, true, false, false, false, false, false, false] #[true, true, true, true, true, true, true, true, true, true, true, true, true, false, false, false, false, true, false, false] rfl rfl rfl rfl (JJ HT_.out (by kernel_rfl)) (by decide) (by decide) (fun K hK => ?_) (fun K hK => ?_)
                          · skip
                            refine l7 Try.func46 (by kernel_rfl) rfl #[.agg #[.int .u32 x137000_1, .slice Ao21 x137001_1.length co21], .int .i64 a0, .int .i64 a1, .int .i64 (Int.tmod (wrap64 ((jB l2 x8_1).f0)) a0), .int .i64 (wrap64 ((wrap64 ((Int.tmod (wrap64 ((jB l2 x8_1).f0)) a0) + 1)) + (Int.tmod (wrap64 ((jB l2 x8_1).f1)) (wrap64 (a0 - (Int.tmod (wrap64 ((jB l2 x8_1).f0)) a0)))))), .int .i64 (Int.tmod (wrap64 ((jB l2 x8_1).f2)) a1)] (by rfl) rfl rfl (by (try simp only [List.map_toArray, List.map_cons, List.map_nil]); first | done | rfl | (simp only [List.length_drop, List.length_take]; rfl)) ?_
                            with_reducible refine (stratumref12_Split.calls kj10 x137000_1 _ _ x137001_1 a0 a1 (Int.tmod (wrap64 ((jB l2 x8_1).f0)) a0) (wrap64 ((wrap64 ((Int.tmod (wrap64 ((jB l2 x8_1).f0)) a0) + 1)) + (Int.tmod (wrap64 ((jB l2 x8_1).f1)) (wrap64 (a0 - (Int.tmod (wrap64 ((jB l2 x8_1).f0)) a0)))))) (Int.tmod (wrap64 ((jB l2 x8_1).f2)) a1) t140 t141 t144 _ ?side1 ?side2 A19.out).mono ?_
                            (case side1 => repeat (first | exact (Kd.R_reads' HO_137001.out).2.2 | (with_reducible refine Kd.C_alloc ?_ _) | (with_reducible refine Kd.C_drewN ?_ _) | (with_reducible refine Kd.C_drew ?_)))
                            (case side2 => exact (Kd.R_reads' HO_137001.out).2.1)
                            rintro e w23 ⟨v142, rfl, ho0, hb⟩
                            refine ⟨_, rfl, ?_⟩
                            have n0_ := iC.mk (Kd.R_elder' (by (with_reducible repeat (first | apply Kd.R_alloc | apply Kd.R_drewN | apply Kd.R_drew)); exact HO_137001.out) (Kd.R_base ho0) hb)
                            have n1_ := iC.mk (Kd.R_lower (Kd.R_new' ho0 (Kd.R_lt (by (with_reducible repeat (first | apply Kd.R_alloc | apply Kd.R_drewN | apply Kd.R_drew)); exact HO_137001.out))) (iW (by repeat (first | (with_reducible first | exact HB.out | apply iF | apply iG | apply iL | refine iH ?_ GE131.out | refine iH ?_ GE136.out) | exact HB.out))))
                            have n2_ := iC.mk (iY (g := gb131) (o := .cells #[.int .u32 0, .slice none 0 0] 42 (0, 0)) (bk_ BK131.out) hb)
                            have n3_ := iC.mk (iY (g := gb136) (o := .cells #[.int .u32 x137000_1, .slice Ao21 x137001_1.length co21] 42 (0, 0)) (bk_ BK136.out) hb)
                            have n4_ := iC.mk (iQ (by repeat (first | (with_reducible first | exact HB.out | apply iF | apply iG | apply iL | refine iH ?_ GE131.out | refine iH ?_ GE136.out) | exact HB.out)) hb)
                            clear HO_137001
                            clear BK131
                            clear BK136
                            clear HB
                            have HO_137001 := n0_
                            have HO143 := n1_
                            have BK131 := n2_
                            have BK136 := n3_
                            have HB := n4_
                            clear n0_ n1_ n2_ n3_ n4_
                            (try clear hb)
                            (try clear hb2)
                            (try clear hk)
                            (try clear hi)
                            (try clear ho0)
                            refine hK.out _ _ ⟨(iD BK136.out 0).trans rfl, (iD BK136.out 1).trans rfl, ((HB.out.cell (World.block_lt_of_cell? w _ hw139_0)).trans hw139_0), ((HB.out.cell (World.block_lt_of_cell? w _ hw139_1)).trans hw139_1), ((HB.out.cell (World.block_lt_of_cell? w _ hw139_2)).trans hw139_2)⟩ (fun hHeld => ?_)
                            clear hK K
                            refine kC (a' := ?_) ?_ ?_
                            rotate_left
                            · show Act.put _ (some 59) _ = _
                              simp only [Act.put, List.setIfInBounds_toArray, List.set_cons_zero, List.set_cons_succ, iJ, iK]
                              rfl
                            refine iM (i := 14) (N := some 45) (v := ?_) (a' := ?_) #[true, true, true, true, true, true, true, true, true, true, true, true, true, true, true, false, false, false, false, false] rfl rfl (iI HT_.out (by kernel_rfl)) (fun _ _ _ h => h) (Or.inl ⟨by rfl, ?_⟩) ?_ ?_
                            rotate_left
                            · intro w'
                              go_simp
                              with_reducible rfl
                            rotate_left
                            · simp only [Act.put, List.setIfInBounds_toArray, List.set_cons_zero, List.set_cons_succ, iJ, iK]
                              rfl
                            refine iM (i := 15) (N := some 60) (v := ?_) (a' := ?_) #[true, true, true, true, true, true, true, true, true, true, true, true, true, true, true, true, false, false, false, false] rfl rfl (iI HT_.out (by kernel_rfl)) (fun _ _ _ h => h) (Or.inl ⟨by rfl, ?_⟩) ?_ ?_
                            rotate_left
                            · intro w'
                              go_simp
                              with_reducible rfl
                            rotate_left
                            · simp only [Act.put, List.setIfInBounds_toArray, List.set_cons_zero, List.set_cons_succ, iJ, iK]
                              rfl
                            refine iM (i := 16) (N := some 61) (v := ?_) (a' := ?_) #[true, true, true, true, true, true, true, true, true, true, true, true, true, true, true, true, true, false, false, false] rfl rfl (iI HT_.out (by kernel_rfl)) (fun _ _ _ h => h) (Or.inl ⟨by rfl, ?_⟩) ?_ ?_
                            rotate_left
                            · intro w'
                              go_simp
                              with_reducible rfl
                            rotate_left
                            · simp only [Act.put, List.setIfInBounds_toArray, List.set_cons_zero, List.set_cons_succ, iJ, iK]
                              rfl
                            refine one_ (i := 17) (N := some 11) #[true, true, true, true, true, true, true, true, true, true, true, true, true, true, true, true, true, true, false, false] rfl rfl (jK HT_.out (by kernel_rfl)) (by decide) (fun K hK => ?_)
                            refine oL ?hg (N := 11) ?hd (cs := #[.int .u32 0, .slice none 0 0]) (t := 42) ?hr ?_; (case hd => rfl); (case hg => rfl); (case hr => first | (go_simp; done) | (go_simp; rfl))
                            intro gb145 hg w24 hbox hb
                            have n0_ := iC.mk (Kd.R_below (by (with_reducible repeat (first | apply Kd.R_alloc | apply Kd.R_drewN | apply Kd.R_drew)); exact HO_137001.out) hb)
                            have n1_ := iC.mk (Kd.R_below (by (with_reducible repeat (first | apply Kd.R_alloc | apply Kd.R_drewN | apply Kd.R_drew)); exact HO143.out) hb)
                            have n2_ := iC.mk (iY (g := gb131) (o := .cells #[.int .u32 0, .slice none 0 0] 42 (0, 0)) (bk_ BK131.out) hb)
                            have n3_ := iC.mk (iY (g := gb136) (o := .cells #[.int .u32 x137000_1, .slice Ao21 x137001_1.length co21] 42 (0, 0)) (bk_ BK136.out) hb)
                            have n4_ := iC.mk (iQ (by repeat (first | (with_reducible first | exact HB.out | apply iF | apply iG | apply iL | refine iH ?_ GE131.out | refine iH ?_ GE136.out) | exact HB.out)) hb)
                            have n5_ := iC.mk (hbox)
                            have n6_ := iC.mk ((by rw [hg]; exact (iW (by repeat (first | (with_reducible first | exact HB.out | apply iF | apply iG | apply iL | refine iH ?_ GE131.out | refine iH ?_ GE136.out) | exact HB.out))) : w.heap.size ≤ gb145))
                            have n7_ := iC.mk ((by rw [hg]; exact (iW (by repeat (first | (with_reducible first | exact HB.out | apply iF | apply iG | apply iL | refine iH ?_ GE131.out | refine iH ?_ GE136.out) | exact HB.out))) : w.heap.size ≤ gb145))
                            have n8_ := iC.mk ((by rw [hg]; exact Nat.ne_of_lt (jJ (g := gb131) (o := .cells #[.int .u32 0, .slice none 0 0] 42 (0, 0)) (bk_ BK131.out)) : gb131 ≠ gb145))
                            have n9_ := iC.mk ((by rw [hg]; exact Nat.ne_of_gt (jJ (g := gb131) (o := .cells #[.int .u32 0, .slice none 0 0] 42 (0, 0)) (bk_ BK131.out)) : gb145 ≠ gb131))
                            have n10_ := iC.mk ((by rw [hg]; exact Nat.ne_of_lt (jJ (g := gb136) (o := .cells #[.int .u32 x137000_1, .slice Ao21 x137001_1.length co21] 42 (0, 0)) (bk_ BK136.out)) : gb136 ≠ gb145))
                            have n11_ := iC.mk ((by rw [hg]; exact Nat.ne_of_gt (jJ (g := gb136) (o := .cells #[.int .u32 x137000_1, .slice Ao21 x137001_1.length co21] 42 (0, 0)) (bk_ BK136.out)) : gb145 ≠ gb136))
                            clear HO_137001
                            clear HO143
                            clear BK131
                            clear BK136
                            clear HB
                            have HO_137001 := n0_
                            have HO143 := n1_
                            have BK131 := n2_
                            have BK136 := n3_
                            have HB := n4_
                            have BK145 := n5_
                            have GW145 := n6_
                            have GE145 := n7_
                            have NB131_145 := n8_
                            have NB145_131 := n9_
                            have NB136_145 := n10_
                            have NB145_136 := n11_
                            clear n0_ n1_ n2_ n3_ n4_ n5_ n6_ n7_ n8_ n9_ n10_ n11_
                            clear hb hbox hg
                            refine hK.out _ _ ⟨(iD BK136.out 0).trans rfl, (iD BK136.out 1).trans rfl, ((HB.out.cell (World.block_lt_of_cell? w _ hw139_0)).trans hw139_0), ((HB.out.cell (World.block_lt_of_cell? w _ hw139_1)).trans hw139_1), ((HB.out.cell (World.block_lt_of_cell? w _ hw139_2)).trans hw139_2)⟩ (fun hHeld => ?_)
                            clear hK K
                            refine kC (a' := ?_) ?_ ?_
                            rotate_left
                            · show Act.put _ (some 11) _ = _
                              simp only [Act.put, List.setIfInBounds_toArray, List.set_cons_zero, List.set_cons_succ, iJ, iK]
                              rfl
                            exact kC (by simp only [nS, Act.put, List.setIfInBounds_toArray, List.set_cons_zero, List.set_cons_succ]) (hCont (v142, gb145) _ ⟨hHeld, (by (with_reducible repeat (first | apply Kd.R_alloc | apply Kd.R_drewN | apply Kd.R_drew)); exact Kd.R_mono HO143.out (fun _ hk => hk.2)), (by (with_reducible repeat (first | apply Kd.R_alloc | apply Kd.R_drewN | apply Kd.R_drew)); exact Kd.R_mono HO_137001.out (fun _ hk => hk.2)), (bk_ BK131.out), (bk_ BK136.out), (bk_ BK145.out), GW145.out, GE145.out, NB131_145.out, NB145_131.out, NB136_145.out, NB145_136.out, (by repeat (first | (with_reducible first | exact HB.out | apply iF | apply iG | apply iL | refine iH ?_ GE131.out | refine iH ?_ GE136.out | refine iH ?_ GE145.out) | exact HB.out))⟩)
                          · skip
                            refine oL ?hg (N := 11) ?hd (cs := #[.int .u32 0, .slice none 0 0]) (t := 42) ?hr ?_; (case hd => rfl); (case hg => rfl); (case hr => first | (go_simp; done) | (go_simp; rfl))
                            intro gb145 hg w23 hbox hb
                            have n0_ := iC.mk (Kd.R_below (by (with_reducible repeat (first | apply Kd.R_alloc | apply Kd.R_drewN | apply Kd.R_drew)); exact HO_137001.out) hb)
                            have n1_ := iC.mk (iY (g := gb131) (o := .cells #[.int .u32 0, .slice none 0 0] 42 (0, 0)) (bk_ BK131.out) hb)
                            have n2_ := iC.mk (iY (g := gb136) (o := .cells #[.int .u32 x137000_1, .slice Ao21 x137001_1.length co21] 42 (0, 0)) (bk_ BK136.out) hb)
                            have n3_ := iC.mk (iQ (by repeat (first | (with_reducible first | exact HB.out | apply iF | apply iG | apply iL | refine iH ?_ GE131.out | refine iH ?_ GE136.out) | exact HB.out)) hb)
                            have n4_ := iC.mk (hbox)
                            have n5_ := iC.mk ((by rw [hg]; exact (iW (by repeat (first | (with_reducible first | exact HB.out | apply iF | apply iG | apply iL | refine iH ?_ GE131.out | refine iH ?_ GE136.out) | exact HB.out))) : w.heap.size ≤ gb145))
                            have n6_ := iC.mk ((by rw [hg]; exact (iW (by repeat (first | (with_reducible first | exact HB.out | apply iF | apply iG | apply iL | refine iH ?_ GE131.out | refine iH ?_ GE136.out) | exact HB.out))) : w.heap.size ≤ gb145))
                            have n7_ := iC.mk ((by rw [hg]; exact Nat.ne_of_lt (jJ (g := gb131) (o := .cells #[.int .u32 0, .slice none 0 0] 42 (0, 0)) (bk_ BK131.out)) : gb131 ≠ gb145))
                            have n8_ := iC.mk ((by rw [hg]; exact Nat.ne_of_gt (jJ (g := gb131) (o := .cells #[.int .u32 0, .slice none 0 0] 42 (0, 0)) (bk_ BK131.out)) : gb145 ≠ gb131))
                            have n9_ := iC.mk ((by rw [hg]; exact Nat.ne_of_lt (jJ (g := gb136) (o := .cells #[.int .u32 x137000_1, .slice Ao21 x137001_1.length co21] 42 (0, 0)) (bk_ BK136.out)) : gb136 ≠ gb145))
                            have n10_ := iC.mk ((by rw [hg]; exact Nat.ne_of_gt (jJ (g := gb136) (o := .cells #[.int .u32 x137000_1, .slice Ao21 x137001_1.length co21] 42 (0, 0)) (bk_ BK136.out)) : gb145 ≠ gb136))
                            clear HO_137001
                            clear BK131
                            clear BK136
                            clear HB
                            have HO_137001 := n0_
                            have BK131 := n1_
                            have BK136 := n2_
                            have HB := n3_
                            have BK145 := n4_
                            have GW145 := n5_
                            have GE145 := n6_
                            have NB131_145 := n7_
                            have NB145_131 := n8_
                            have NB136_145 := n9_
                            have NB145_136 := n10_
                            clear n0_ n1_ n2_ n3_ n4_ n5_ n6_ n7_ n8_ n9_ n10_
                            clear hb hbox hg
                            refine hK.out _ _ ⟨(iD BK136.out 0).trans rfl, (iD BK136.out 1).trans rfl, ((HB.out.cell (World.block_lt_of_cell? w _ hw139_0)).trans hw139_0), ((HB.out.cell (World.block_lt_of_cell? w _ hw139_1)).trans hw139_1), ((HB.out.cell (World.block_lt_of_cell? w _ hw139_2)).trans hw139_2)⟩ (fun hHeld => ?_)
                            clear hK K
                            refine kC (a' := ?_) ?_ ?_
                            rotate_left
                            · show Act.put _ (some 11) _ = _
                              simp only [Act.put, List.setIfInBounds_toArray, List.set_cons_zero, List.set_cons_succ, iJ, iK]
                              rfl
                            refine one_ (i := 13) (N := some 59) #[true, true, true, true, true, true, true, true, true, true, true, true, true, true, false, false, false, true, false, false] rfl rfl (jK HT_.out (by kernel_rfl)) (by decide) (fun K hK => ?_)
                            refine l7 Try.func46 (by kernel_rfl) rfl #[.agg #[.int .u32 x137000_1, .slice Ao21 x137001_1.length co21], .int .i64 a0, .int .i64 a1, .int .i64 (Int.tmod (wrap64 ((jB l2 x8_1).f0)) a0), .int .i64 (wrap64 ((wrap64 ((Int.tmod (wrap64 ((jB l2 x8_1).f0)) a0) + 1)) + (Int.tmod (wrap64 ((jB l2 x8_1).f1)) (wrap64 (a0 - (Int.tmod (wrap64 ((jB l2 x8_1).f0)) a0)))))), .int .i64 (Int.tmod (wrap64 ((jB l2 x8_1).f2)) a1)] (by rfl) rfl rfl (by (try simp only [List.map_toArray, List.map_cons, List.map_nil]); first | done | rfl | (simp only [List.length_drop, List.length_take]; rfl)) ?_
                            with_reducible refine (stratumref12_Split.calls kj10 x137000_1 _ _ x137001_1 a0 a1 (Int.tmod (wrap64 ((jB l2 x8_1).f0)) a0) (wrap64 ((wrap64 ((Int.tmod (wrap64 ((jB l2 x8_1).f0)) a0) + 1)) + (Int.tmod (wrap64 ((jB l2 x8_1).f1)) (wrap64 (a0 - (Int.tmod (wrap64 ((jB l2 x8_1).f0)) a0)))))) (Int.tmod (wrap64 ((jB l2 x8_1).f2)) a1) t140 t141 t144 _ ?side1 ?side2 A19.out).mono ?_
                            (case side1 => repeat (first | exact (Kd.R_reads' HO_137001.out).2.2 | (with_reducible refine Kd.C_alloc ?_ _) | (with_reducible refine Kd.C_drewN ?_ _) | (with_reducible refine Kd.C_drew ?_)))
                            (case side2 => exact (Kd.R_reads' HO_137001.out).2.1)
                            rintro e w24 ⟨v142, rfl, ho0, hb⟩
                            refine ⟨_, rfl, ?_⟩
                            have n0_ := iC.mk (Kd.R_elder' (by (with_reducible repeat (first | apply Kd.R_alloc | apply Kd.R_drewN | apply Kd.R_drew)); exact HO_137001.out) (Kd.R_base ho0) hb)
                            have n1_ := iC.mk (Kd.R_lower (Kd.R_new' ho0 (Kd.R_lt (by (with_reducible repeat (first | apply Kd.R_alloc | apply Kd.R_drewN | apply Kd.R_drew)); exact HO_137001.out))) (iW (by repeat (first | (with_reducible first | exact HB.out | apply iF | apply iG | apply iL | refine iH ?_ GE131.out | refine iH ?_ GE136.out | refine iH ?_ GE145.out) | exact HB.out))))
                            have n2_ := iC.mk (iY (g := gb131) (o := .cells #[.int .u32 0, .slice none 0 0] 42 (0, 0)) (bk_ BK131.out) hb)
                            have n3_ := iC.mk (iY (g := gb136) (o := .cells #[.int .u32 x137000_1, .slice Ao21 x137001_1.length co21] 42 (0, 0)) (bk_ BK136.out) hb)
                            have n4_ := iC.mk (iY (g := gb145) (o := .cells #[.int .u32 0, .slice none 0 0] 42 (0, 0)) (bk_ BK145.out) hb)
                            have n5_ := iC.mk (iQ (by repeat (first | (with_reducible first | exact HB.out | apply iF | apply iG | apply iL | refine iH ?_ GE131.out | refine iH ?_ GE136.out | refine iH ?_ GE145.out) | exact HB.out)) hb)
                            clear HO_137001
                            clear BK131
                            clear BK136
                            clear BK145
                            clear HB
                            have HO_137001 := n0_
                            have HO143 := n1_
                            have BK131 := n2_
                            have BK136 := n3_
                            have BK145 := n4_
                            have HB := n5_
                            clear n0_ n1_ n2_ n3_ n4_ n5_
                            (try clear hb)
                            (try clear hb2)
                            (try clear hk)
                            (try clear hi)
                            (try clear ho0)
                            refine hK.out _ _ ⟨(iD BK136.out 0).trans rfl, (iD BK136.out 1).trans rfl, ((HB.out.cell (World.block_lt_of_cell? w _ hw139_0)).trans hw139_0), ((HB.out.cell (World.block_lt_of_cell? w _ hw139_1)).trans hw139_1), ((HB.out.cell (World.block_lt_of_cell? w _ hw139_2)).trans hw139_2)⟩ (fun hHeld => ?_)
                            clear hK K
                            refine kC (a' := ?_) ?_ ?_
                            rotate_left
                            · show Act.put _ (some 59) _ = _
                              simp only [Act.put, List.setIfInBounds_toArray, List.set_cons_zero, List.set_cons_succ, iJ, iK]
                              rfl
                            refine iM (i := 14) (N := some 45) (v := ?_) (a' := ?_) #[true, true, true, true, true, true, true, true, true, true, true, true, true, true, true, false, false, true, false, false] rfl rfl (iI HT_.out (by kernel_rfl)) (fun _ _ _ h => h) (Or.inl ⟨by rfl, ?_⟩) ?_ ?_
                            rotate_left
                            · intro w'
                              go_simp
                              with_reducible rfl
                            rotate_left
                            · simp only [Act.put, List.setIfInBounds_toArray, List.set_cons_zero, List.set_cons_succ, iJ, iK]
                              rfl
                            refine iM (i := 15) (N := some 60) (v := ?_) (a' := ?_) #[true, true, true, true, true, true, true, true, true, true, true, true, true, true, true, true, false, true, false, false] rfl rfl (iI HT_.out (by kernel_rfl)) (fun _ _ _ h => h) (Or.inl ⟨by rfl, ?_⟩) ?_ ?_
                            rotate_left
                            · intro w'
                              go_simp
                              with_reducible rfl
                            rotate_left
                            · simp only [Act.put, List.setIfInBounds_toArray, List.set_cons_zero, List.set_cons_succ, iJ, iK]
                              rfl
                            refine iM (i := 16) (N := some 61) (v := ?_) (a' := ?_) #[true, true, true, true, true, true, true, true, true, true, true, true, true, true, true, true, true, true, false, false] rfl rfl (iI HT_.out (by kernel_rfl)) (fun _ _ _ h => h) (Or.inl ⟨by rfl, ?_⟩) ?_ ?_
                            rotate_left
                            · intro w'
                              go_simp
                              with_reducible rfl
                            rotate_left
                            · simp only [Act.put, List.setIfInBounds_toArray, List.set_cons_zero, List.set_cons_succ, iJ, iK]
                              rfl
                            exact kC (by simp only [nS, Act.put, List.setIfInBounds_toArray, List.set_cons_zero, List.set_cons_succ]) (hCont (v142, gb145) _ ⟨hHeld, (by (with_reducible repeat (first | apply Kd.R_alloc | apply Kd.R_drewN | apply Kd.R_drew)); exact Kd.R_mono HO143.out (fun _ hk => hk.2)), (by (with_reducible repeat (first | apply Kd.R_alloc | apply Kd.R_drewN | apply Kd.R_drew)); exact Kd.R_mono HO_137001.out (fun _ hk => hk.2)), (bk_ BK131.out), (bk_ BK136.out), (bk_ BK145.out), GW145.out, GE145.out, NB131_145.out, NB145_131.out, NB136_145.out, NB145_136.out, (by repeat (first | (with_reducible first | exact HB.out | apply iF | apply iG | apply iL | refine iH ?_ GE131.out | refine iH ?_ GE136.out | refine iH ?_ GE145.out) | exact HB.out))⟩)
                        rintro ⟨v142, gb145⟩ w25 ⟨hS_, h0_, h1_, h2_, h3_, h4_, h5_, h6_, h7_, h8_, h9_, h10_, h11_⟩
                        have n0_ : iC (Kd.R k96 96 w25 w.heap.size (fun k_ => some k_ ≠ (.slice Ao21 x137001_1.length co21 : Value).ownBlock) v142 t141) := ⟨h0_⟩
                        have n1_ : iC (Kd.R k96 96 w25 w.heap.size (fun k_ => some k_ ≠ (v142 : Value).ownBlock) (.slice Ao21 x137001_1.length co21) x137001_1) := ⟨h1_⟩
                        have n2_ : iC (w25.heap[gb131]? = some (.cells #[.int .u32 0, .slice none 0 0] 42 (0, 0))) := ⟨h2_⟩
                        have n3_ : iC (w25.heap[gb136]? = some (.cells #[.int .u32 x137000_1, .slice Ao21 x137001_1.length co21] 42 (0, 0))) := ⟨h3_⟩
                        have n4_ : iC (w25.heap[gb145]? = some (.cells #[.int .u32 0, .slice none 0 0] 42 (0, 0))) := ⟨h4_⟩
                        have n5_ : iC (w.heap.size ≤ gb145) := ⟨h5_⟩
                        have n6_ : iC (w.heap.size ≤ gb145) := ⟨h6_⟩
                        have n7_ : iC (gb131 ≠ gb145) := ⟨h7_⟩
                        have n8_ : iC (gb145 ≠ gb131) := ⟨h8_⟩
                        have n9_ : iC (gb136 ≠ gb145) := ⟨h9_⟩
                        have n10_ : iC (gb145 ≠ gb136) := ⟨h10_⟩
                        have n11_ : iC (Below w.heap.size w w25) := ⟨h11_⟩
                        clear HO_137001
                        clear BK131
                        clear BK136
                        clear HB
                        clear h0_ h1_ h2_ h3_ h4_ h5_ h6_ h7_ h8_ h9_ h10_ h11_
                        have HO143 := n0_
                        have HO_137001 := n1_
                        have BK131 := n2_
                        have BK136 := n3_
                        have BK145 := n4_
                        have GW145 := n5_
                        have GE145 := n6_
                        have NB131_145 := n7_
                        have NB145_131 := n8_
                        have NB136_145 := n9_
                        have NB145_136 := n10_
                        have HB := n11_
                        clear n0_ n1_ n2_ n3_ n4_ n5_ n6_ n7_ n8_ n9_ n10_ n11_
                        have hHeld : w25.cell? ⟨gb136, 0, none⟩ = some (.int .u32 x137000_1) ∧ w25.cell? ⟨gb136, 1, none⟩ = some (.slice Ao21 x137001_1.length co21) ∧ w25.cell? (ad137.add ((x8_1).toNat * 3)) = some (.int .u16 ((jB l2 x8_1).f0)) ∧ w25.cell? ⟨(ad137.add ((x8_1).toNat * 3)).block, (ad137.add ((x8_1).toNat * 3)).off + 1, none⟩ = some (.int .u16 ((jB l2 x8_1).f1)) ∧ w25.cell? ⟨(ad137.add ((x8_1).toNat * 3)).block, (ad137.add ((x8_1).toNat * 3)).off + 2, none⟩ = some (.int .u8 ((jB l2 x8_1).f2)) := hS_
                        obtain ⟨Ao27, co27, eo27⟩ := Kd.R_slice HO143.out
                        (first | subst eo27 | (injection eo27 with f1_ f2_ f3_; have f4_ := f1_.symm; have f5_ := f3_.symm; clear f1_ f2_ f3_; subst f4_; subst f5_))
                        refine kC (a' := ?_) ?_ ?_
                        rotate_left
                        · simp only [nS, Act.put, List.setIfInBounds_toArray, List.set_cons_zero, List.set_cons_succ]
                          rfl
                        refine one_ (i := 18) (N := none) #[true, true, true, true, true, true, true, true, true, true, true, true, true, true, true, true, true, true, true, false] rfl rfl (jK HT_.out (by kernel_rfl)) (by decide) (fun K hK => ?_)
                        have hs26 : w25.cell? ⟨gb145, 0, none⟩ = some (.int .u32 0) := (iD BK145.out 0).trans rfl
                        have hfs26 := iE BK145.out 0
                        have hns26_0 := NB131_145.out
                        have hns26_1 := NB136_145.out
                        have hms26_0 := NB145_131.out
                        have hms26_1 := NB145_136.out
                        have hs28 : w25.cell? ⟨gb145, 1, none⟩ = some (.slice none 0 0) := (iD BK145.out 1).trans rfl
                        have hfs28 := iE BK145.out 1
                        have hns28_0 := NB131_145.out
                        have hns28_1 := NB136_145.out
                        have hms28_0 := NB145_131.out
                        have hms28_1 := NB145_136.out
                        refine mX (w1 := ?_) (by rfl) rfl ?_ ?_
                        rotate_left
                        · go_simp
                          rfl
                        refine hK.out _ _ ⟨((cell_far (p := ⟨gb145, _, none⟩) NB136_145.out _).trans (((cell_far (p := ⟨gb145, _, none⟩) NB136_145.out _).trans (hHeld.1)))), ((cell_far (p := ⟨gb145, _, none⟩) NB136_145.out _).trans (((cell_far (p := ⟨gb145, _, none⟩) NB136_145.out _).trans (hHeld.2.1)))), ((cell_far (p := ⟨gb145, _, none⟩) (by first | exact Nat.ne_of_lt (Nat.lt_of_lt_of_le (by have := World.block_lt_of_cell? _ _ hw139_0; first | rwa [add_block] at this | exact this) GW145.out) | (rw [add_block]; exact Nat.ne_of_lt (Nat.lt_of_lt_of_le (by have := World.block_lt_of_cell? _ _ hw139_0; first | rwa [add_block] at this | exact this) GW145.out)) | (show (Addr.add _ _).block ≠ _; rw [add_block]; exact Nat.ne_of_lt (Nat.lt_of_lt_of_le (by have := World.block_lt_of_cell? _ _ hw139_0; first | rwa [add_block] at this | exact this) GW145.out)) | (dsimp only; exact Nat.ne_of_lt (Nat.lt_of_lt_of_le (by have := World.block_lt_of_cell? _ _ hw139_0; first | rwa [add_block] at this | exact this) GW145.out))) _).trans (((cell_far (p := ⟨gb145, _, none⟩) (by first | exact Nat.ne_of_lt (Nat.lt_of_lt_of_le (by have := World.block_lt_of_cell? _ _ hw139_0; first | rwa [add_block] at this | exact this) GW145.out) | (rw [add_block]; exact Nat.ne_of_lt (Nat.lt_of_lt_of_le (by have := World.block_lt_of_cell? _ _ hw139_0; first | rwa [add_block] at this | exact this) GW145.out)) | (show (Addr.add _ _).block ≠ _; rw [add_block]; exact Nat.ne_of_lt (Nat.lt_of_lt_of_le (by have := World.block_lt_of_cell? _ _ hw139_0; first | rwa [add_block] at this | exact this) GW145.out)) | (dsimp only; exact Nat.ne_of_lt (Nat.lt_of_lt_of_le (by have := World.block_lt_of_cell? _ _ hw139_0; first | rwa [add_block] at this | exact this) GW145.out))) _).trans (hHeld.2.2.1)))), ((cell_far (p := ⟨gb145, _, none⟩) (by first | exact Nat.ne_of_lt (Nat.lt_of_lt_of_le (by have := World.block_lt_of_cell? _ _ hw139_1; first | rwa [add_block] at this | exact this) GW145.out) | (rw [add_block]; exact Nat.ne_of_lt (Nat.lt_of_lt_of_le (by have := World.block_lt_of_cell? _ _ hw139_1; first | rwa [add_block] at this | exact this) GW145.out)) | (show (Addr.add _ _).block ≠ _; rw [add_block]; exact Nat.ne_of_lt (Nat.lt_of_lt_of_le (by have := World.block_lt_of_cell? _ _ hw139_1; first | rwa [add_block] at this | exact this) GW145.out)) | (dsimp only; exact Nat.ne_of_lt (Nat.lt_of_lt_of_le (by have := World.block_lt_of_cell? _ _ hw139_1; first | rwa [add_block] at this | exact this) GW145.out))) _).trans (((cell_far (p := ⟨gb145, _, none⟩) (by first | exact Nat.ne_of_lt (Nat.lt_of_lt_of_le (by have := World.block_lt_of_cell? _ _ hw139_1; first | rwa [add_block] at this | exact this) GW145.out) | (rw [add_block]; exact Nat.ne_of_lt (Nat.lt_of_lt_of_le (by have := World.block_lt_of_cell? _ _ hw139_1; first | rwa [add_block] at this | exact this) GW145.out)) | (show (Addr.add _ _).block ≠ _; rw [add_block]; exact Nat.ne_of_lt (Nat.lt_of_lt_of_le (by have := World.block_lt_of_cell? _ _ hw139_1; first | rwa [add_block] at this | exact this) GW145.out)) | (dsimp only; exact Nat.ne_of_lt (Nat.lt_of_lt_of_le (by have := World.block_lt_of_cell? _ _ hw139_1; first | rwa [add_block] at this | exact this) GW145.out))) _).trans (hHeld.2.2.2.1)))), ((cell_far (p := ⟨gb145, _, none⟩) (by first | exact Nat.ne_of_lt (Nat.lt_of_lt_of_le (by have := World.block_lt_of_cell? _ _ hw139_2; first | rwa [add_block] at this | exact this) GW145.out) | (rw [add_block]; exact Nat.ne_of_lt (Nat.lt_of_lt_of_le (by have := World.block_lt_of_cell? _ _ hw139_2; first | rwa [add_block] at this | exact this) GW145.out)) | (show (Addr.add _ _).block ≠ _; rw [add_block]; exact Nat.ne_of_lt (Nat.lt_of_lt_of_le (by have := World.block_lt_of_cell? _ _ hw139_2; first | rwa [add_block] at this | exact this) GW145.out)) | (dsimp only; exact Nat.ne_of_lt (Nat.lt_of_lt_of_le (by have := World.block_lt_of_cell? _ _ hw139_2; first | rwa [add_block] at this | exact this) GW145.out))) _).trans (((cell_far (p := ⟨gb145, _, none⟩) (by first | exact Nat.ne_of_lt (Nat.lt_of_lt_of_le (by have := World.block_lt_of_cell? _ _ hw139_2; first | rwa [add_block] at this | exact this) GW145.out) | (rw [add_block]; exact Nat.ne_of_lt (Nat.lt_of_lt_of_le (by have := World.block_lt_of_cell? _ _ hw139_2; first | rwa [add_block] at this | exact this) GW145.out)) | (show (Addr.add _ _).block ≠ _; rw [add_block]; exact Nat.ne_of_lt (Nat.lt_of_lt_of_le (by have := World.block_lt_of_cell? _ _ hw139_2; first | rwa [add_block] at this | exact this) GW145.out)) | (dsimp only; exact Nat.ne_of_lt (Nat.lt_of_lt_of_le (by have := World.block_lt_of_cell? _ _ hw139_2; first | rwa [add_block] at this | exact this) GW145.out))) _).trans (hHeld.2.2.2.2))))⟩ (fun hHeld => ?_)
                        clear hK K
                        refine iM (i := 19) (N := some 12) (v := ?_) (a' := ?_) #[true, true, true, true, true, true, true, true, true, true, true, true, true, true, true, true, true, true, true, true] rfl rfl (iI HT_.out (by kernel_rfl)) (fun _ _ _ h => h) (Or.inl ⟨by rfl, ?_⟩) ?_ ?_
                        rotate_left
                        · intro w'
                          go_simp
                          with_reducible rfl
                        rotate_left
                        · simp only [Act.put, List.setIfInBounds_toArray, List.set_cons_zero, List.set_cons_succ, iJ, iK]
                          rfl
                        refine kP (jM HT_.out (by kernel_rfl)) ?_
                        have hnb29 := NB145_131.out
                        have hnc29 := NB131_145.out
                        have hnb30 := NB145_136.out
                        have hnc30 := NB136_145.out
                        have hcz31_0 : w25.cell? ⟨gb145, 0, none⟩ = some (.int .u32 0) := (iD BK145.out 0).trans rfl
                        have hcz31_1 : w25.cell? ⟨gb145, 1, none⟩ = some (.slice none 0 0) := (iD BK145.out 1).trans rfl
                        have hfz31_0 := iE BK145.out 0
                        have hfz31_1 := iE BK145.out 1
                        have hnb32 := NB136_131.out
                        have hnc32 := NB131_136.out
                        have hcz33_0 : w25.cell? ⟨gb136, 0, none⟩ = some (.int .u32 x137000_1) := (iD BK136.out 0).trans rfl
                        have hcz33_1 : w25.cell? ⟨gb136, 1, none⟩ = some (.slice Ao21 x137001_1.length co21) := (iD BK136.out 1).trans rfl
                        have hfz33_0 := iE BK136.out 0
                        have hfz33_1 := iE BK136.out 1
                        try go_wp2
                        go_roundg kj10
                        case measure => have := HK1.out; have := HJ10.out; omega
                        case rel => exact ⟨(wrap64 (x8_1 + 1)), (t140), (t141), (.slice Ao27 t141.length co27), (by first | rfl | (simp; done) | (simp [*]; done)), H', ⟨by have := HK1.out; have := HJ10.out; omega⟩, ⟨by (with_reducible repeat (first | apply Kd.R_alloc | apply Kd.R_drewN | apply Kd.R_drew)); exact Kd.R_mono (Kd.R_far (p := ⟨gb136, 1, none⟩) (Kd.R_far (p := ⟨gb136, 0, none⟩) (Kd.R_far (p := ⟨gb145, 1, none⟩) (Kd.R_far (p := ⟨gb145, 0, none⟩) (Kd.R_types (Kd.R_types HO143.out BK145.out (by decide)) BK136.out (by decide)) (fun _ hk => hk.1.2) (.int .u32 t140)) (fun _ hk => hk.1.2) (.slice Ao27 t141.length co27)) (fun _ hk => hk.2) (.int .u32 t140)) (fun _ hk => hk.2) (.slice Ao27 t141.length co27)) (fun _ hk => trivial)⟩, ⟨by (with_reducible repeat (first | refine iR ?_ _ | refine iU ?_ | refine iO ?_ _)); refine jT ?_ NB131_136.out _; (with_reducible repeat (first | refine iR ?_ _ | refine iU ?_ | refine iO ?_ _)); refine jT ?_ NB131_136.out _; (with_reducible repeat (first | refine iR ?_ _ | refine iU ?_ | refine iO ?_ _)); refine jT ?_ NB131_145.out _; (with_reducible repeat (first | refine iR ?_ _ | refine iU ?_ | refine iO ?_ _)); refine jT ?_ NB131_145.out _; (with_reducible repeat (first | refine iR ?_ _ | refine iU ?_ | refine iO ?_ _)); exact BK131.out⟩, ⟨by (with_reducible repeat (first | refine iR ?_ _ | refine iU ?_ | refine iO ?_ _)); refine iZ (cs := #[.int .u32 t140, .slice Ao21 x137001_1.length co21]) ?_ 1 _ rfl; (with_reducible repeat (first | refine iR ?_ _ | refine iU ?_ | refine iO ?_ _)); refine iZ (cs := #[.int .u32 x137000_1, .slice Ao21 x137001_1.length co21]) ?_ 0 _ rfl; (with_reducible repeat (first | refine iR ?_ _ | refine iU ?_ | refine iO ?_ _)); refine jT ?_ NB136_145.out _; (with_reducible repeat (first | refine iR ?_ _ | refine iU ?_ | refine iO ?_ _)); refine jT ?_ NB136_145.out _; (with_reducible repeat (first | refine iR ?_ _ | refine iU ?_ | refine iO ?_ _)); exact BK136.out⟩, ⟨by repeat (first | (with_reducible first | exact HB.out | apply iF | apply iG | apply iL | refine iH ?_ GE131.out | refine iH ?_ GE136.out | refine iH ?_ GE145.out) | exact HB.out)⟩⟩
                      · rw [if_neg c20] at H
                        have c20b0 : (t144 == 0) = false := beq_eq_false_iff_ne.mpr c20
                        have c20b1 : (t144 != 0) = true := bne_iff_ne.mpr c20
                        have H' := iC.mk H
                        clear H
                        have p137 : 0 ≤ (x8_1 : Int) := of_decide_eq_true asm_
                        have q137 : x8_1 < (l2.length : Int) := of_decide_eq_true asm_
                        obtain ⟨ad137, e137, hx137_0, hx137_1, hx137_2⟩ := qC HR2.out x8_1 p137 q137
                        cases e137
                        replace hx137_0 := (HB.out.cell (World.block_lt_of_cell? w _ hx137_0)).trans hx137_0
                        replace hx137_1 := (HB.out.cell (World.block_lt_of_cell? w _ hx137_1)).trans hx137_1
                        replace hx137_2 := (HB.out.cell (World.block_lt_of_cell? w _ hx137_2)).trans hx137_2
                        replace p137 := eq_true p137
                        replace q137 := eq_true q137
                        have p138 : 0 ≤ (x8_1 : Int) := of_decide_eq_true asm_
                        have q138 : x8_1 < (l2.length : Int) := of_decide_eq_true asm_
                        obtain ⟨ad138, e138, hx138_0, hx138_1, hx138_2⟩ := qC HR2.out x8_1 p138 q138
                        obtain rfl : ad137 = ad138 := (by injection e138)
                        replace hx138_0 := (HB.out.cell (World.block_lt_of_cell? w _ hx138_0)).trans hx138_0
                        replace hx138_1 := (HB.out.cell (World.block_lt_of_cell? w _ hx138_1)).trans hx138_1
                        replace hx138_2 := (HB.out.cell (World.block_lt_of_cell? w _ hx138_2)).trans hx138_2
                        replace p138 := eq_true p138
                        replace q138 := eq_true q138
                        obtain ⟨Ao34, co34, eo34⟩ := Kd.R_slice HO_137001.out
                        subst eo34
                        try go_wp2
                        have n0_ := iC.mk (Kd.R_drew HO_137001.out)
                        have n1_ := iC.mk (iU BK131.out)
                        have n2_ := iC.mk (iU BK136.out)
                        have n3_ := iC.mk (iL HB.out)
                        clear HO_137001
                        clear BK131
                        clear BK136
                        clear HB
                        have HO_137001 := n0_
                        have BK131 := n1_
                        have BK136 := n2_
                        have HB := n3_
                        clear n0_ n1_ n2_ n3_
                        have p139 : 0 ≤ (x8_1 : Int) := of_decide_eq_true asm_
                        have q139 : x8_1 < (l2.length : Int) := of_decide_eq_true asm_
                        obtain ⟨ad139, e139, hx139_0, hx139_1, hx139_2⟩ := qC HR2.out x8_1 p139 q139
                        have hw139_2 := hx139_2
                        have hw139_1 := hx139_1
                        have hw139_0 := hx139_0
                        obtain rfl : ad137 = ad139 := (by injection e139)
                        replace hx139_0 := (HB.out.cell (World.block_lt_of_cell? w _ hx139_0)).trans hx139_0
                        replace hx139_1 := (HB.out.cell (World.block_lt_of_cell? w _ hx139_1)).trans hx139_1
                        replace hx139_2 := (HB.out.cell (World.block_lt_of_cell? w _ hx139_2)).trans hx139_2
                        replace p139 := eq_true p139
                        replace q139 := eq_true q139
                        refine jQ (n := 20) (S := fun w' => w'.cell? ⟨gb136, 0, none⟩ = some (.int .u32 x137000_1) ∧ w'.cell? ⟨gb136, 1, none⟩ = some (.slice Ao34 x137001_1.length co34) ∧ w'.cell? (ad137.add ((x8_1).toNat * 3)) = some (.int .u16 ((jB l2 x8_1).f0)) ∧ w'.cell? ⟨(ad137.add ((x8_1).toNat * 3)).block, (ad137.add ((x8_1).toNat * 3)).off + 1, none⟩ = some (.int .u16 ((jB l2 x8_1).f1)) ∧ w'.cell? ⟨(ad137.add ((x8_1).toNat * 3)).block, (ad137.add ((x8_1).toNat * 3)).off + 2, none⟩ = some (.int .u8 ((jB l2 x8_1).f2))) (ds := []) #[false, false, false, false, false, false, false, false, false, false, false, false, false, false, false, false, false, false, false, false] (by kernel_rfl) rfl rfl ⟨(iD BK136.out 0).trans rfl, (iD BK136.out 1).trans rfl, ((HB.out.cell (World.block_lt_of_cell? w _ hw139_0)).trans hw139_0), ((HB.out.cell (World.block_lt_of_cell? w _ hw139_1)).trans hw139_1), ((HB.out.cell (World.block_lt_of_cell? w _ hw139_2)).trans hw139_2)⟩ (fun hHeld => ?_); refine jE stratumlaw12_Of.tab7 stratumlaw12_Of.bits7 (fun HT_ HW_ => ?_)
                        generalize wc.drew = w35 at HO_137001 BK131 BK136 HB hx139_0 hx139_1 hx139_2 hHeld ⊢
                        refine iM (i := 1) (N := some 47) (v := ?_) (a' := ?_) #[false, true, false, false, false, false, false, false, false, false, false, false, false, false, false, false, false, false, false, false] rfl rfl (iI HT_.out (by kernel_rfl)) (fun _ _ _ h => h) (Or.inl ⟨by rfl, ?_⟩) ?_ ?_
                        rotate_left
                        · intro w'
                          go_simp
                          with_reducible rfl
                        rotate_left
                        · simp only [Act.put, List.setIfInBounds_toArray, List.set_cons_zero, List.set_cons_succ, iJ, iK]
                          rfl
                        refine iM (i := 2) (N := some 48) (v := ?_) (a' := ?_) #[false, true, true, false, false, false, false, false, false, false, false, false, false, false, false, false, false, false, false, false] rfl rfl (iI HT_.out (by kernel_rfl)) (fun _ _ _ h => h) (Or.inl ⟨by rfl, ?_⟩) ?_ ?_
                        rotate_left
                        · intro w'
                          go_simp
                          with_reducible rfl
                        rotate_left
                        · simp only [Act.put, List.setIfInBounds_toArray, List.set_cons_zero, List.set_cons_succ, iJ, iK]
                          rfl
                        refine iM (i := 3) (N := some 49) (v := ?_) (a' := ?_) #[false, true, true, true, false, false, false, false, false, false, false, false, false, false, false, false, false, false, false, false] rfl rfl (iI HT_.out (by kernel_rfl)) (fun _ _ _ h => h) (Or.inl ⟨by rfl, ?_⟩) ?_ ?_
                        rotate_left
                        · intro w'
                          go_simp
                          with_reducible rfl
                        rotate_left
                        · simp only [Act.put, List.setIfInBounds_toArray, List.set_cons_zero, List.set_cons_succ, iJ, iK]
                          rfl
                        refine iM (i := 4) (N := some 50) (v := ?_) (a' := ?_) #[false, true, true, true, true, false, false, false, false, false, false, false, false, false, false, false, false, false, false, false] rfl rfl (iI HT_.out (by kernel_rfl)) (fun _ _ _ h => h) (Or.inl ⟨by rfl, ?_⟩) ?_ ?_
                        rotate_left
                        · intro w'
                          go_simp
                          with_reducible rfl
                        rotate_left
                        · simp only [Act.put, List.setIfInBounds_toArray, List.set_cons_zero, List.set_cons_succ, iJ, iK]
                          rfl
                        refine iM (i := 5) (N := some 51) (v := ?_) (a' := ?_) #[false, true, true, true, true, true, false, false, false, false, false, false, false, false, false, false, false, false, false, false] rfl rfl (iI HT_.out (by kernel_rfl)) (fun _ _ _ h => h) (Or.inl ⟨by rfl, ?_⟩) ?_ ?_
                        rotate_left
                        · intro w'
                          go_simp
                          with_reducible rfl
                        rotate_left
                        · simp only [Act.put, List.setIfInBounds_toArray, List.set_cons_zero, List.set_cons_succ, iJ, iK]
                          rfl
                        refine iM (i := 6) (N := some 52) (v := ?_) (a' := ?_) #[false, true, true, true, true, true, true, false, false, false, false, false, false, false, false, false, false, false, false, false] rfl rfl (iI HT_.out (by kernel_rfl)) (fun _ _ _ h => h) (Or.inl ⟨by rfl, ?_⟩) ?_ ?_
                        rotate_left
                        · intro w'
                          go_simp
                          with_reducible rfl
                        rotate_left
                        · simp only [Act.put, List.setIfInBounds_toArray, List.set_cons_zero, List.set_cons_succ, iJ, iK]
                          rfl
                        refine iM (i := 7) (N := some 53) (v := ?_) (a' := ?_) #[false, true, true, true, true, true, true, true, false, false, false, false, false, false, false, false, false, false, false, false] rfl rfl (iI HT_.out (by kernel_rfl)) (fun _ _ _ h => h) (Or.inl ⟨by rfl, ?_⟩) ?_ ?_
                        rotate_left
                        · intro w'
                          go_simp
                          with_reducible rfl
                        rotate_left
                        · simp only [Act.put, List.setIfInBounds_toArray, List.set_cons_zero, List.set_cons_succ, iJ, iK]
                          rfl
                        refine iM (i := 8) (N := some 54) (v := ?_) (a' := ?_) #[false, true, true, true, true, true, true, true, true, false, false, false, false, false, false, false, false, false, false, false] rfl rfl (iI HT_.out (by kernel_rfl)) (fun _ _ _ h => h) (Or.inl ⟨by rfl, ?_⟩) ?_ ?_
                        rotate_left
                        · intro w'
                          go_simp
                          with_reducible rfl
                        rotate_left
                        · simp only [Act.put, List.setIfInBounds_toArray, List.set_cons_zero, List.set_cons_succ, iJ, iK]
                          rfl
                        refine iM (i := 11) (N := some 57) (v := ?_) (a' := ?_) #[false, true, true, true, true, true, true, true, true, false, false, true, false, false, false, false, false, false, false, false] rfl rfl (iI HT_.out (by kernel_rfl)) (fun _ _ _ h => h) (Or.inl ⟨by rfl, ?_⟩) ?_ ?_
                        rotate_left
                        · intro w'
                          go_simp
                          with_reducible rfl
                        rotate_left
                        · simp only [Act.put, List.setIfInBounds_toArray, List.set_cons_zero, List.set_cons_succ, iJ, iK]
                          rfl
                        refine jH (i := 0) (N := some 46) (v := ?_) (a' := ?_) #[true, true, true, true, true, true, true, true, true, false, false, true, false, false, false, false, false, false, false, false] rfl rfl (iT HT_.out HW_.out (by kernel_rfl)) (fun _ _ _ h => h) (Or.inl ⟨by rfl, ?_⟩) hHeld ?_ ?_
                        rotate_left
                        · rintro w' ⟨s0, s1, s2, s3, s4⟩
                          go_simp
                          with_reducible rfl
                        rotate_left
                        · simp only [Act.put, List.setIfInBounds_toArray, List.set_cons_zero, List.set_cons_succ, iJ, iK]
                          rfl
                        refine jH (i := 9) (N := some 55) (v := ?_) (a' := ?_) #[true, true, true, true, true, true, true, true, true, true, false, true, false, false, false, false, false, false, false, false] rfl rfl (iT HT_.out HW_.out (by kernel_rfl)) (fun _ _ _ h => h) (Or.inl ⟨by rfl, ?_⟩) hHeld ?_ ?_
                        rotate_left
                        · rintro w' ⟨s0, s1, s2, s3, s4⟩
                          go_simp
                          with_reducible rfl
                        rotate_left
                        · simp only [Act.put, List.setIfInBounds_toArray, List.set_cons_zero, List.set_cons_succ, iJ, iK]
                          rfl
                        refine iM (i := 10) (N := some 56) (v := ?_) (a' := ?_) #[true, true, true, true, true, true, true, true, true, true, true, true, false, false, false, false, false, false, false, false] rfl rfl (iI HT_.out (by kernel_rfl)) (fun _ _ _ h => h) (Or.inl ⟨by rfl, ?_⟩) ?_ ?_
                        rotate_left
                        · intro w'
                          go_simp
                          with_reducible rfl
                        rotate_left
                        · simp only [Act.put, List.setIfInBounds_toArray, List.set_cons_zero, List.set_cons_succ, iJ, iK]
                          rfl
                        refine iM (i := 12) (N := some 58) (v := ?_) (a' := ?_) #[true, true, true, true, true, true, true, true, true, true, true, true, true, false, false, false, false, false, false, false] rfl rfl (iI HT_.out (by kernel_rfl)) (fun _ _ _ h => h) (Or.inl ⟨by rfl, ?_⟩) ?_ ?_
                        rotate_left
                        · intro w'
                          go_simp
                          with_reducible rfl
                        rotate_left
                        · simp only [Act.put, List.setIfInBounds_toArray, List.set_cons_zero, List.set_cons_succ, iJ, iK]
                          rfl
                        refine MG (σ := Value × Nat) 2 #[true, true, true, true, true, true, true, true, true, true, true, true, true, true, true, true, true, true, false, false] (fun s_ => [(59, .tuple #[.agg #[.int .u32 t140, s_.1], .int .i64 t144]), (11, .pointer (some ⟨s_.2, 0, none⟩)), (45, .tuple #[.agg #[.int .u32 t140, s_.1], .int .i64 t144]), (60, .agg #[.int .u32 t140, s_.1]), (61, .int .i64 t144)]) (fun s_ w' => (w'.cell? ⟨gb136, 0, none⟩ = some (.int .u32 x137000_1) ∧ w'.cell? ⟨gb136, 1, none⟩ = some (.slice Ao34 x137001_1.length co34) ∧ w'.cell? (ad137.add ((x8_1).toNat * 3)) = some (.int .u16 ((jB l2 x8_1).f0)) ∧ w'.cell? ⟨(ad137.add ((x8_1).toNat * 3)).block, (ad137.add ((x8_1).toNat * 3)).off + 1, none⟩ = some (.int .u16 ((jB l2 x8_1).f1)) ∧ w'.cell? ⟨(ad137.add ((x8_1).toNat * 3)).block, (ad137.add ((x8_1).toNat * 3)).off + 2, none⟩ = some (.int .u8 ((jB l2 x8_1).f2))) ∧ (Kd.R k96 96 w' w.heap.size (fun k_ => some k_ ≠ (.slice Ao34 x137001_1.length co34 : Value).ownBlock) s_.1 t141) ∧ (Kd.R k96 96 w' w.heap.size (fun k_ => some k_ ≠ (s_.1 : Value).ownBlock) (.slice Ao34 x137001_1.length co34) x137001_1) ∧ (w'.heap[gb131]? = some (.cells #[.int .u32 0, .slice none 0 0] 42 (0, 0))) ∧ (w'.heap[gb136]? = some (.cells #[.int .u32 x137000_1, .slice Ao34 x137001_1.length co34] 42 (0, 0))) ∧ (w'.heap[s_.2]? = some (.cells #[.int .u32 0, .slice none 0 0] 42 (0, 0))) ∧ (w.heap.size ≤ s_.2) ∧ (w.heap.size ≤ s_.2) ∧ (gb131 ≠ s_.2) ∧ (s_.2 ≠ gb131) ∧ (gb136 ≠ s_.2) ∧ (s_.2 ≠ gb136) ∧ (Below w.heap.size w w')) ?_ ?_
                        rotate_left
                        · intro hCont
                          refine two_ (i := 13) (j := 17) (Ni := some 59) (Nj := some 11) #[true, true, true, true, true, true, true, true, true, true, true, true, true, true, false, false, false, false, false, false] #[true, true, true, true, true, true, true, true, true, true, true, true, true, false, false, false, false, true, false, false] rfl rfl rfl rfl (JJ HT_.out (by kernel_rfl)) (by decide) (by decide) (fun K hK => ?_) (fun K hK => ?_)
                          · skip
                            refine l7 Try.func46 (by kernel_rfl) rfl #[.agg #[.int .u32 x137000_1, .slice Ao34 x137001_1.length co34], .int .i64 a0, .int .i64 a1, .int .i64 (Int.tmod (wrap64 ((jB l2 x8_1).f0)) a0), .int .i64 (wrap64 ((wrap64 ((Int.tmod (wrap64 ((jB l2 x8_1).f0)) a0) + 1)) + (Int.tmod (wrap64 ((jB l2 x8_1).f1)) (wrap64 (a0 - (Int.tmod (wrap64 ((jB l2 x8_1).f0)) a0)))))), .int .i64 (Int.tmod (wrap64 ((jB l2 x8_1).f2)) a1)] (by rfl) rfl rfl (by (try simp only [List.map_toArray, List.map_cons, List.map_nil]); first | done | rfl | (simp only [List.length_drop, List.length_take]; rfl)) ?_
                            with_reducible refine (stratumref12_Split.calls kj10 x137000_1 _ _ x137001_1 a0 a1 (Int.tmod (wrap64 ((jB l2 x8_1).f0)) a0) (wrap64 ((wrap64 ((Int.tmod (wrap64 ((jB l2 x8_1).f0)) a0) + 1)) + (Int.tmod (wrap64 ((jB l2 x8_1).f1)) (wrap64 (a0 - (Int.tmod (wrap64 ((jB l2 x8_1).f0)) a0)))))) (Int.tmod (wrap64 ((jB l2 x8_1).f2)) a1) t140 t141 t144 _ ?side1 ?side2 A19.out).mono ?_
                            (case side1 => repeat (first | exact (Kd.R_reads' HO_137001.out).2.2 | (with_reducible refine Kd.C_alloc ?_ _) | (with_reducible refine Kd.C_drewN ?_ _) | (with_reducible refine Kd.C_drew ?_)))
                            (case side2 => exact (Kd.R_reads' HO_137001.out).2.1)
                            rintro e w36 ⟨v142, rfl, ho0, hb⟩
                            refine ⟨_, rfl, ?_⟩
                            have n0_ := iC.mk (Kd.R_elder' (by (with_reducible repeat (first | apply Kd.R_alloc | apply Kd.R_drewN | apply Kd.R_drew)); exact HO_137001.out) (Kd.R_base ho0) hb)
                            have n1_ := iC.mk (Kd.R_lower (Kd.R_new' ho0 (Kd.R_lt (by (with_reducible repeat (first | apply Kd.R_alloc | apply Kd.R_drewN | apply Kd.R_drew)); exact HO_137001.out))) (iW (by repeat (first | (with_reducible first | exact HB.out | apply iF | apply iG | apply iL | refine iH ?_ GE131.out | refine iH ?_ GE136.out) | exact HB.out))))
                            have n2_ := iC.mk (iY (g := gb131) (o := .cells #[.int .u32 0, .slice none 0 0] 42 (0, 0)) (bk_ BK131.out) hb)
                            have n3_ := iC.mk (iY (g := gb136) (o := .cells #[.int .u32 x137000_1, .slice Ao34 x137001_1.length co34] 42 (0, 0)) (bk_ BK136.out) hb)
                            have n4_ := iC.mk (iQ (by repeat (first | (with_reducible first | exact HB.out | apply iF | apply iG | apply iL | refine iH ?_ GE131.out | refine iH ?_ GE136.out) | exact HB.out)) hb)
                            clear HO_137001
                            clear BK131
                            clear BK136
                            clear HB
                            have HO_137001 := n0_
                            have HO143 := n1_
                            have BK131 := n2_
                            have BK136 := n3_
                            have HB := n4_
                            clear n0_ n1_ n2_ n3_ n4_
                            (try clear hb)
                            (try clear hb2)
                            (try clear hk)
                            (try clear hi)
                            (try clear ho0)
                            refine hK.out _ _ ⟨(iD BK136.out 0).trans rfl, (iD BK136.out 1).trans rfl, ((HB.out.cell (World.block_lt_of_cell? w _ hw139_0)).trans hw139_0), ((HB.out.cell (World.block_lt_of_cell? w _ hw139_1)).trans hw139_1), ((HB.out.cell (World.block_lt_of_cell? w _ hw139_2)).trans hw139_2)⟩ (fun hHeld => ?_)
                            clear hK K
                            refine kC (a' := ?_) ?_ ?_
                            rotate_left
                            · show Act.put _ (some 59) _ = _
                              simp only [Act.put, List.setIfInBounds_toArray, List.set_cons_zero, List.set_cons_succ, iJ, iK]
                              rfl
                            refine iM (i := 14) (N := some 45) (v := ?_) (a' := ?_) #[true, true, true, true, true, true, true, true, true, true, true, true, true, true, true, false, false, false, false, false] rfl rfl (iI HT_.out (by kernel_rfl)) (fun _ _ _ h => h) (Or.inl ⟨by rfl, ?_⟩) ?_ ?_
                            rotate_left
                            · intro w'
                              go_simp
                              with_reducible rfl
                            rotate_left
                            · simp only [Act.put, List.setIfInBounds_toArray, List.set_cons_zero, List.set_cons_succ, iJ, iK]
                              rfl
                            refine iM (i := 15) (N := some 60) (v := ?_) (a' := ?_) #[true, true, true, true, true, true, true, true, true, true, true, true, true, true, true, true, false, false, false, false] rfl rfl (iI HT_.out (by kernel_rfl)) (fun _ _ _ h => h) (Or.inl ⟨by rfl, ?_⟩) ?_ ?_
                            rotate_left
                            · intro w'
                              go_simp
                              with_reducible rfl
                            rotate_left
                            · simp only [Act.put, List.setIfInBounds_toArray, List.set_cons_zero, List.set_cons_succ, iJ, iK]
                              rfl
                            refine iM (i := 16) (N := some 61) (v := ?_) (a' := ?_) #[true, true, true, true, true, true, true, true, true, true, true, true, true, true, true, true, true, false, false, false] rfl rfl (iI HT_.out (by kernel_rfl)) (fun _ _ _ h => h) (Or.inl ⟨by rfl, ?_⟩) ?_ ?_
                            rotate_left
                            · intro w'
                              go_simp
                              with_reducible rfl
                            rotate_left
                            · simp only [Act.put, List.setIfInBounds_toArray, List.set_cons_zero, List.set_cons_succ, iJ, iK]
                              rfl
                            refine one_ (i := 17) (N := some 11) #[true, true, true, true, true, true, true, true, true, true, true, true, true, true, true, true, true, true, false, false] rfl rfl (jK HT_.out (by kernel_rfl)) (by decide) (fun K hK => ?_)
                            refine oL ?hg (N := 11) ?hd (cs := #[.int .u32 0, .slice none 0 0]) (t := 42) ?hr ?_; (case hd => rfl); (case hg => rfl); (case hr => first | (go_simp; done) | (go_simp; rfl))
                            intro gb145 hg w37 hbox hb
                            have n0_ := iC.mk (Kd.R_below (by (with_reducible repeat (first | apply Kd.R_alloc | apply Kd.R_drewN | apply Kd.R_drew)); exact HO_137001.out) hb)
                            have n1_ := iC.mk (Kd.R_below (by (with_reducible repeat (first | apply Kd.R_alloc | apply Kd.R_drewN | apply Kd.R_drew)); exact HO143.out) hb)
                            have n2_ := iC.mk (iY (g := gb131) (o := .cells #[.int .u32 0, .slice none 0 0] 42 (0, 0)) (bk_ BK131.out) hb)
                            have n3_ := iC.mk (iY (g := gb136) (o := .cells #[.int .u32 x137000_1, .slice Ao34 x137001_1.length co34] 42 (0, 0)) (bk_ BK136.out) hb)
                            have n4_ := iC.mk (iQ (by repeat (first | (with_reducible first | exact HB.out | apply iF | apply iG | apply iL | refine iH ?_ GE131.out | refine iH ?_ GE136.out) | exact HB.out)) hb)
                            have n5_ := iC.mk (hbox)
                            have n6_ := iC.mk ((by rw [hg]; exact (iW (by repeat (first | (with_reducible first | exact HB.out | apply iF | apply iG | apply iL | refine iH ?_ GE131.out | refine iH ?_ GE136.out) | exact HB.out))) : w.heap.size ≤ gb145))
                            have n7_ := iC.mk ((by rw [hg]; exact (iW (by repeat (first | (with_reducible first | exact HB.out | apply iF | apply iG | apply iL | refine iH ?_ GE131.out | refine iH ?_ GE136.out) | exact HB.out))) : w.heap.size ≤ gb145))
                            have n8_ := iC.mk ((by rw [hg]; exact Nat.ne_of_lt (jJ (g := gb131) (o := .cells #[.int .u32 0, .slice none 0 0] 42 (0, 0)) (bk_ BK131.out)) : gb131 ≠ gb145))
                            have n9_ := iC.mk ((by rw [hg]; exact Nat.ne_of_gt (jJ (g := gb131) (o := .cells #[.int .u32 0, .slice none 0 0] 42 (0, 0)) (bk_ BK131.out)) : gb145 ≠ gb131))
                            have n10_ := iC.mk ((by rw [hg]; exact Nat.ne_of_lt (jJ (g := gb136) (o := .cells #[.int .u32 x137000_1, .slice Ao34 x137001_1.length co34] 42 (0, 0)) (bk_ BK136.out)) : gb136 ≠ gb145))
                            have n11_ := iC.mk ((by rw [hg]; exact Nat.ne_of_gt (jJ (g := gb136) (o := .cells #[.int .u32 x137000_1, .slice Ao34 x137001_1.length co34] 42 (0, 0)) (bk_ BK136.out)) : gb145 ≠ gb136))
                            clear HO_137001
                            clear HO143
                            clear BK131
                            clear BK136
                            clear HB
                            have HO_137001 := n0_
                            have HO143 := n1_
                            have BK131 := n2_
                            have BK136 := n3_
                            have HB := n4_
                            have BK145 := n5_
                            have GW145 := n6_
                            have GE145 := n7_
                            have NB131_145 := n8_
                            have NB145_131 := n9_
                            have NB136_145 := n10_
                            have NB145_136 := n11_
                            clear n0_ n1_ n2_ n3_ n4_ n5_ n6_ n7_ n8_ n9_ n10_ n11_
                            clear hb hbox hg
                            refine hK.out _ _ ⟨(iD BK136.out 0).trans rfl, (iD BK136.out 1).trans rfl, ((HB.out.cell (World.block_lt_of_cell? w _ hw139_0)).trans hw139_0), ((HB.out.cell (World.block_lt_of_cell? w _ hw139_1)).trans hw139_1), ((HB.out.cell (World.block_lt_of_cell? w _ hw139_2)).trans hw139_2)⟩ (fun hHeld => ?_)
                            clear hK K
                            refine kC (a' := ?_) ?_ ?_
                            rotate_left
                            · show Act.put _ (some 11) _ = _
                              simp only [Act.put, List.setIfInBounds_toArray, List.set_cons_zero, List.set_cons_succ, iJ, iK]
                              rfl
                            exact kC (by simp only [nS, Act.put, List.setIfInBounds_toArray, List.set_cons_zero, List.set_cons_succ]) (hCont (v142, gb145) _ ⟨hHeld, (by (with_reducible repeat (first | apply Kd.R_alloc | apply Kd.R_drewN | apply Kd.R_drew)); exact Kd.R_mono HO143.out (fun _ hk => hk.2)), (by (with_reducible repeat (first | apply Kd.R_alloc | apply Kd.R_drewN | apply Kd.R_drew)); exact Kd.R_mono HO_137001.out (fun _ hk => hk.2)), (bk_ BK131.out), (bk_ BK136.out), (bk_ BK145.out), GW145.out, GE145.out, NB131_145.out, NB145_131.out, NB136_145.out, NB145_136.out, (by repeat (first | (with_reducible first | exact HB.out | apply iF | apply iG | apply iL | refine iH ?_ GE131.out | refine iH ?_ GE136.out | refine iH ?_ GE145.out) | exact HB.out))⟩)
                          · skip
                            refine oL ?hg (N := 11) ?hd (cs := #[.int .u32 0, .slice none 0 0]) (t := 42) ?hr ?_; (case hd => rfl); (case hg => rfl); (case hr => first | (go_simp; done) | (go_simp; rfl))
                            intro gb145 hg w36 hbox hb
                            have n0_ := iC.mk (Kd.R_below (by (with_reducible repeat (first | apply Kd.R_alloc | apply Kd.R_drewN | apply Kd.R_drew)); exact HO_137001.out) hb)
                            have n1_ := iC.mk (iY (g := gb131) (o := .cells #[.int .u32 0, .slice none 0 0] 42 (0, 0)) (bk_ BK131.out) hb)
                            have n2_ := iC.mk (iY (g := gb136) (o := .cells #[.int .u32 x137000_1, .slice Ao34 x137001_1.length co34] 42 (0, 0)) (bk_ BK136.out) hb)
                            have n3_ := iC.mk (iQ (by repeat (first | (with_reducible first | exact HB.out | apply iF | apply iG | apply iL | refine iH ?_ GE131.out | refine iH ?_ GE136.out) | exact HB.out)) hb)
                            have n4_ := iC.mk (hbox)
                            have n5_ := iC.mk ((by rw [hg]; exact (iW (by repeat (first | (with_reducible first | exact HB.out | apply iF | apply iG | apply iL | refine iH ?_ GE131.out | refine iH ?_ GE136.out) | exact HB.out))) : w.heap.size ≤ gb145))
                            have n6_ := iC.mk ((by rw [hg]; exact (iW (by repeat (first | (with_reducible first | exact HB.out | apply iF | apply iG | apply iL | refine iH ?_ GE131.out | refine iH ?_ GE136.out) | exact HB.out))) : w.heap.size ≤ gb145))
                            have n7_ := iC.mk ((by rw [hg]; exact Nat.ne_of_lt (jJ (g := gb131) (o := .cells #[.int .u32 0, .slice none 0 0] 42 (0, 0)) (bk_ BK131.out)) : gb131 ≠ gb145))
                            have n8_ := iC.mk ((by rw [hg]; exact Nat.ne_of_gt (jJ (g := gb131) (o := .cells #[.int .u32 0, .slice none 0 0] 42 (0, 0)) (bk_ BK131.out)) : gb145 ≠ gb131))
                            have n9_ := iC.mk ((by rw [hg]; exact Nat.ne_of_lt (jJ (g := gb136) (o := .cells #[.int .u32 x137000_1, .slice Ao34 x137001_1.length co34] 42 (0, 0)) (bk_ BK136.out)) : gb136 ≠ gb145))
                            have n10_ := iC.mk ((by rw [hg]; exact Nat.ne_of_gt (jJ (g := gb136) (o := .cells #[.int .u32 x137000_1, .slice Ao34 x137001_1.length co34] 42 (0, 0)) (bk_ BK136.out)) : gb145 ≠ gb136))
                            clear HO_137001
                            clear BK131
                            clear BK136
                            clear HB
                            have HO_137001 := n0_
                            have BK131 := n1_
                            have BK136 := n2_
                            have HB := n3_
                            have BK145 := n4_
                            have GW145 := n5_
                            have GE145 := n6_
                            have NB131_145 := n7_
                            have NB145_131 := n8_
                            have NB136_145 := n9_
                            have NB145_136 := n10_
                            clear n0_ n1_ n2_ n3_ n4_ n5_ n6_ n7_ n8_ n9_ n10_
                            clear hb hbox hg
                            refine hK.out _ _ ⟨(iD BK136.out 0).trans rfl, (iD BK136.out 1).trans rfl, ((HB.out.cell (World.block_lt_of_cell? w _ hw139_0)).trans hw139_0), ((HB.out.cell (World.block_lt_of_cell? w _ hw139_1)).trans hw139_1), ((HB.out.cell (World.block_lt_of_cell? w _ hw139_2)).trans hw139_2)⟩ (fun hHeld => ?_)
                            clear hK K
                            refine kC (a' := ?_) ?_ ?_
                            rotate_left
                            · show Act.put _ (some 11) _ = _
                              simp only [Act.put, List.setIfInBounds_toArray, List.set_cons_zero, List.set_cons_succ, iJ, iK]
                              rfl
                            refine one_ (i := 13) (N := some 59) #[true, true, true, true, true, true, true, true, true, true, true, true, true, true, false, false, false, true, false, false] rfl rfl (jK HT_.out (by kernel_rfl)) (by decide) (fun K hK => ?_)
                            refine l7 Try.func46 (by kernel_rfl) rfl #[.agg #[.int .u32 x137000_1, .slice Ao34 x137001_1.length co34], .int .i64 a0, .int .i64 a1, .int .i64 (Int.tmod (wrap64 ((jB l2 x8_1).f0)) a0), .int .i64 (wrap64 ((wrap64 ((Int.tmod (wrap64 ((jB l2 x8_1).f0)) a0) + 1)) + (Int.tmod (wrap64 ((jB l2 x8_1).f1)) (wrap64 (a0 - (Int.tmod (wrap64 ((jB l2 x8_1).f0)) a0)))))), .int .i64 (Int.tmod (wrap64 ((jB l2 x8_1).f2)) a1)] (by rfl) rfl rfl (by (try simp only [List.map_toArray, List.map_cons, List.map_nil]); first | done | rfl | (simp only [List.length_drop, List.length_take]; rfl)) ?_
                            with_reducible refine (stratumref12_Split.calls kj10 x137000_1 _ _ x137001_1 a0 a1 (Int.tmod (wrap64 ((jB l2 x8_1).f0)) a0) (wrap64 ((wrap64 ((Int.tmod (wrap64 ((jB l2 x8_1).f0)) a0) + 1)) + (Int.tmod (wrap64 ((jB l2 x8_1).f1)) (wrap64 (a0 - (Int.tmod (wrap64 ((jB l2 x8_1).f0)) a0)))))) (Int.tmod (wrap64 ((jB l2 x8_1).f2)) a1) t140 t141 t144 _ ?side1 ?side2 A19.out).mono ?_
                            (case side1 => repeat (first | exact (Kd.R_reads' HO_137001.out).2.2 | (with_reducible refine Kd.C_alloc ?_ _) | (with_reducible refine Kd.C_drewN ?_ _) | (with_reducible refine Kd.C_drew ?_)))
                            (case side2 => exact (Kd.R_reads' HO_137001.out).2.1)
                            rintro e w37 ⟨v142, rfl, ho0, hb⟩
                            refine ⟨_, rfl, ?_⟩
                            have n0_ := iC.mk (Kd.R_elder' (by (with_reducible repeat (first | apply Kd.R_alloc | apply Kd.R_drewN | apply Kd.R_drew)); exact HO_137001.out) (Kd.R_base ho0) hb)
                            have n1_ := iC.mk (Kd.R_lower (Kd.R_new' ho0 (Kd.R_lt (by (with_reducible repeat (first | apply Kd.R_alloc | apply Kd.R_drewN | apply Kd.R_drew)); exact HO_137001.out))) (iW (by repeat (first | (with_reducible first | exact HB.out | apply iF | apply iG | apply iL | refine iH ?_ GE131.out | refine iH ?_ GE136.out | refine iH ?_ GE145.out) | exact HB.out))))
                            have n2_ := iC.mk (iY (g := gb131) (o := .cells #[.int .u32 0, .slice none 0 0] 42 (0, 0)) (bk_ BK131.out) hb)
                            have n3_ := iC.mk (iY (g := gb136) (o := .cells #[.int .u32 x137000_1, .slice Ao34 x137001_1.length co34] 42 (0, 0)) (bk_ BK136.out) hb)
                            have n4_ := iC.mk (iY (g := gb145) (o := .cells #[.int .u32 0, .slice none 0 0] 42 (0, 0)) (bk_ BK145.out) hb)
                            have n5_ := iC.mk (iQ (by repeat (first | (with_reducible first | exact HB.out | apply iF | apply iG | apply iL | refine iH ?_ GE131.out | refine iH ?_ GE136.out | refine iH ?_ GE145.out) | exact HB.out)) hb)
                            clear HO_137001
                            clear BK131
                            clear BK136
                            clear BK145
                            clear HB
                            have HO_137001 := n0_
                            have HO143 := n1_
                            have BK131 := n2_
                            have BK136 := n3_
                            have BK145 := n4_
                            have HB := n5_
                            clear n0_ n1_ n2_ n3_ n4_ n5_
                            (try clear hb)
                            (try clear hb2)
                            (try clear hk)
                            (try clear hi)
                            (try clear ho0)
                            refine hK.out _ _ ⟨(iD BK136.out 0).trans rfl, (iD BK136.out 1).trans rfl, ((HB.out.cell (World.block_lt_of_cell? w _ hw139_0)).trans hw139_0), ((HB.out.cell (World.block_lt_of_cell? w _ hw139_1)).trans hw139_1), ((HB.out.cell (World.block_lt_of_cell? w _ hw139_2)).trans hw139_2)⟩ (fun hHeld => ?_)
                            clear hK K
                            refine kC (a' := ?_) ?_ ?_
                            rotate_left
                            · show Act.put _ (some 59) _ = _
                              simp only [Act.put, List.setIfInBounds_toArray, List.set_cons_zero, List.set_cons_succ, iJ, iK]
                              rfl
                            refine iM (i := 14) (N := some 45) (v := ?_) (a' := ?_) #[true, true, true, true, true, true, true, true, true, true, true, true, true, true, true, false, false, true, false, false] rfl rfl (iI HT_.out (by kernel_rfl)) (fun _ _ _ h => h) (Or.inl ⟨by rfl, ?_⟩) ?_ ?_
                            rotate_left
                            · intro w'
                              go_simp
                              with_reducible rfl
                            rotate_left
                            · simp only [Act.put, List.setIfInBounds_toArray, List.set_cons_zero, List.set_cons_succ, iJ, iK]
                              rfl
                            refine iM (i := 15) (N := some 60) (v := ?_) (a' := ?_) #[true, true, true, true, true, true, true, true, true, true, true, true, true, true, true, true, false, true, false, false] rfl rfl (iI HT_.out (by kernel_rfl)) (fun _ _ _ h => h) (Or.inl ⟨by rfl, ?_⟩) ?_ ?_
                            rotate_left
                            · intro w'
                              go_simp
                              with_reducible rfl
                            rotate_left
                            · simp only [Act.put, List.setIfInBounds_toArray, List.set_cons_zero, List.set_cons_succ, iJ, iK]
                              rfl
                            refine iM (i := 16) (N := some 61) (v := ?_) (a' := ?_) #[true, true, true, true, true, true, true, true, true, true, true, true, true, true, true, true, true, true, false, false] rfl rfl (iI HT_.out (by kernel_rfl)) (fun _ _ _ h => h) (Or.inl ⟨by rfl, ?_⟩) ?_ ?_
                            rotate_left
                            · intro w'
                              go_simp
                              with_reducible rfl
                            rotate_left
                            · simp only [Act.put, List.setIfInBounds_toArray, List.set_cons_zero, List.set_cons_succ, iJ, iK]
                              rfl
                            exact kC (by simp only [nS, Act.put, List.setIfInBounds_toArray, List.set_cons_zero, List.set_cons_succ]) (hCont (v142, gb145) _ ⟨hHeld, (by (with_reducible repeat (first | apply Kd.R_alloc | apply Kd.R_drewN | apply Kd.R_drew)); exact Kd.R_mono HO143.out (fun _ hk => hk.2)), (by (with_reducible repeat (first | apply Kd.R_alloc | apply Kd.R_drewN | apply Kd.R_drew)); exact Kd.R_mono HO_137001.out (fun _ hk => hk.2)), (bk_ BK131.out), (bk_ BK136.out), (bk_ BK145.out), GW145.out, GE145.out, NB131_145.out, NB145_131.out, NB136_145.out, NB145_136.out, (by repeat (first | (with_reducible first | exact HB.out | apply iF | apply iG | apply iL | refine iH ?_ GE131.out | refine iH ?_ GE136.out | refine iH ?_ GE145.out) | exact HB.out))⟩)
                        rintro ⟨v142, gb145⟩ w38 ⟨hS_, h0_, h1_, h2_, h3_, h4_, h5_, h6_, h7_, h8_, h9_, h10_, h11_⟩
                        have n0_ : iC (Kd.R k96 96 w38 w.heap.size (fun k_ => some k_ ≠ (.slice Ao34 x137001_1.length co34 : Value).ownBlock) v142 t141) := ⟨h0_⟩
                        have n1_ : iC (Kd.R k96 96 w38 w.heap.size (fun k_ => some k_ ≠ (v142 : Value).ownBlock) (.slice Ao34 x137001_1.length co34) x137001_1) := ⟨h1_⟩
                        have n2_ : iC (w38.heap[gb131]? = some (.cells #[.int .u32 0, .slice none 0 0] 42 (0, 0))) := ⟨h2_⟩
                        have n3_ : iC (w38.heap[gb136]? = some (.cells #[.int .u32 x137000_1, .slice Ao34 x137001_1.length co34] 42 (0, 0))) := ⟨h3_⟩
                        have n4_ : iC (w38.heap[gb145]? = some (.cells #[.int .u32 0, .slice none 0 0] 42 (0, 0))) := ⟨h4_⟩
                        have n5_ : iC (w.heap.size ≤ gb145) := ⟨h5_⟩
                        have n6_ : iC (w.heap.size ≤ gb145) := ⟨h6_⟩
                        have n7_ : iC (gb131 ≠ gb145) := ⟨h7_⟩
                        have n8_ : iC (gb145 ≠ gb131) := ⟨h8_⟩
                        have n9_ : iC (gb136 ≠ gb145) := ⟨h9_⟩
                        have n10_ : iC (gb145 ≠ gb136) := ⟨h10_⟩
                        have n11_ : iC (Below w.heap.size w w38) := ⟨h11_⟩
                        clear HO_137001
                        clear BK131
                        clear BK136
                        clear HB
                        clear h0_ h1_ h2_ h3_ h4_ h5_ h6_ h7_ h8_ h9_ h10_ h11_
                        have HO143 := n0_
                        have HO_137001 := n1_
                        have BK131 := n2_
                        have BK136 := n3_
                        have BK145 := n4_
                        have GW145 := n5_
                        have GE145 := n6_
                        have NB131_145 := n7_
                        have NB145_131 := n8_
                        have NB136_145 := n9_
                        have NB145_136 := n10_
                        have HB := n11_
                        clear n0_ n1_ n2_ n3_ n4_ n5_ n6_ n7_ n8_ n9_ n10_ n11_
                        have hHeld : w38.cell? ⟨gb136, 0, none⟩ = some (.int .u32 x137000_1) ∧ w38.cell? ⟨gb136, 1, none⟩ = some (.slice Ao34 x137001_1.length co34) ∧ w38.cell? (ad137.add ((x8_1).toNat * 3)) = some (.int .u16 ((jB l2 x8_1).f0)) ∧ w38.cell? ⟨(ad137.add ((x8_1).toNat * 3)).block, (ad137.add ((x8_1).toNat * 3)).off + 1, none⟩ = some (.int .u16 ((jB l2 x8_1).f1)) ∧ w38.cell? ⟨(ad137.add ((x8_1).toNat * 3)).block, (ad137.add ((x8_1).toNat * 3)).off + 2, none⟩ = some (.int .u8 ((jB l2 x8_1).f2)) := hS_
                        obtain ⟨Ao40, co40, eo40⟩ := Kd.R_slice HO143.out
                        (first | subst eo40 | (injection eo40 with f1_ f2_ f3_; have f4_ := f1_.symm; have f5_ := f3_.symm; clear f1_ f2_ f3_; subst f4_; subst f5_))
                        refine kC (a' := ?_) ?_ ?_
                        rotate_left
                        · simp only [nS, Act.put, List.setIfInBounds_toArray, List.set_cons_zero, List.set_cons_succ]
                          rfl
                        refine one_ (i := 18) (N := none) #[true, true, true, true, true, true, true, true, true, true, true, true, true, true, true, true, true, true, true, false] rfl rfl (jK HT_.out (by kernel_rfl)) (by decide) (fun K hK => ?_)
                        have hs39 : w38.cell? ⟨gb145, 0, none⟩ = some (.int .u32 0) := (iD BK145.out 0).trans rfl
                        have hfs39 := iE BK145.out 0
                        have hns39_0 := NB131_145.out
                        have hns39_1 := NB136_145.out
                        have hms39_0 := NB145_131.out
                        have hms39_1 := NB145_136.out
                        have hs41 : w38.cell? ⟨gb145, 1, none⟩ = some (.slice none 0 0) := (iD BK145.out 1).trans rfl
                        have hfs41 := iE BK145.out 1
                        have hns41_0 := NB131_145.out
                        have hns41_1 := NB136_145.out
                        have hms41_0 := NB145_131.out
                        have hms41_1 := NB145_136.out
                        refine mX (w1 := ?_) (by rfl) rfl ?_ ?_
                        rotate_left
                        · go_simp
                          rfl
                        refine hK.out _ _ ⟨((cell_far (p := ⟨gb145, _, none⟩) NB136_145.out _).trans (((cell_far (p := ⟨gb145, _, none⟩) NB136_145.out _).trans (hHeld.1)))), ((cell_far (p := ⟨gb145, _, none⟩) NB136_145.out _).trans (((cell_far (p := ⟨gb145, _, none⟩) NB136_145.out _).trans (hHeld.2.1)))), ((cell_far (p := ⟨gb145, _, none⟩) (by first | exact Nat.ne_of_lt (Nat.lt_of_lt_of_le (by have := World.block_lt_of_cell? _ _ hw139_0; first | rwa [add_block] at this | exact this) GW145.out) | (rw [add_block]; exact Nat.ne_of_lt (Nat.lt_of_lt_of_le (by have := World.block_lt_of_cell? _ _ hw139_0; first | rwa [add_block] at this | exact this) GW145.out)) | (show (Addr.add _ _).block ≠ _; rw [add_block]; exact Nat.ne_of_lt (Nat.lt_of_lt_of_le (by have := World.block_lt_of_cell? _ _ hw139_0; first | rwa [add_block] at this | exact this) GW145.out)) | (dsimp only; exact Nat.ne_of_lt (Nat.lt_of_lt_of_le (by have := World.block_lt_of_cell? _ _ hw139_0; first | rwa [add_block] at this | exact this) GW145.out))) _).trans (((cell_far (p := ⟨gb145, _, none⟩) (by first | exact Nat.ne_of_lt (Nat.lt_of_lt_of_le (by have := World.block_lt_of_cell? _ _ hw139_0; first | rwa [add_block] at this | exact this) GW145.out) | (rw [add_block]; exact Nat.ne_of_lt (Nat.lt_of_lt_of_le (by have := World.block_lt_of_cell? _ _ hw139_0; first | rwa [add_block] at this | exact this) GW145.out)) | (show (Addr.add _ _).block ≠ _; rw [add_block]; exact Nat.ne_of_lt (Nat.lt_of_lt_of_le (by have := World.block_lt_of_cell? _ _ hw139_0; first | rwa [add_block] at this | exact this) GW145.out)) | (dsimp only; exact Nat.ne_of_lt (Nat.lt_of_lt_of_le (by have := World.block_lt_of_cell? _ _ hw139_0; first | rwa [add_block] at this | exact this) GW145.out))) _).trans (hHeld.2.2.1)))), ((cell_far (p := ⟨gb145, _, none⟩) (by first | exact Nat.ne_of_lt (Nat.lt_of_lt_of_le (by have := World.block_lt_of_cell? _ _ hw139_1; first | rwa [add_block] at this | exact this) GW145.out) | (rw [add_block]; exact Nat.ne_of_lt (Nat.lt_of_lt_of_le (by have := World.block_lt_of_cell? _ _ hw139_1; first | rwa [add_block] at this | exact this) GW145.out)) | (show (Addr.add _ _).block ≠ _; rw [add_block]; exact Nat.ne_of_lt (Nat.lt_of_lt_of_le (by have := World.block_lt_of_cell? _ _ hw139_1; first | rwa [add_block] at this | exact this) GW145.out)) | (dsimp only; exact Nat.ne_of_lt (Nat.lt_of_lt_of_le (by have := World.block_lt_of_cell? _ _ hw139_1; first | rwa [add_block] at this | exact this) GW145.out))) _).trans (((cell_far (p := ⟨gb145, _, none⟩) (by first | exact Nat.ne_of_lt (Nat.lt_of_lt_of_le (by have := World.block_lt_of_cell? _ _ hw139_1; first | rwa [add_block] at this | exact this) GW145.out) | (rw [add_block]; exact Nat.ne_of_lt (Nat.lt_of_lt_of_le (by have := World.block_lt_of_cell? _ _ hw139_1; first | rwa [add_block] at this | exact this) GW145.out)) | (show (Addr.add _ _).block ≠ _; rw [add_block]; exact Nat.ne_of_lt (Nat.lt_of_lt_of_le (by have := World.block_lt_of_cell? _ _ hw139_1; first | rwa [add_block] at this | exact this) GW145.out)) | (dsimp only; exact Nat.ne_of_lt (Nat.lt_of_lt_of_le (by have := World.block_lt_of_cell? _ _ hw139_1; first | rwa [add_block] at this | exact this) GW145.out))) _).trans (hHeld.2.2.2.1)))), ((cell_far (p := ⟨gb145, _, none⟩) (by first | exact Nat.ne_of_lt (Nat.lt_of_lt_of_le (by have := World.block_lt_of_cell? _ _ hw139_2; first | rwa [add_block] at this | exact this) GW145.out) | (rw [add_block]; exact Nat.ne_of_lt (Nat.lt_of_lt_of_le (by have := World.block_lt_of_cell? _ _ hw139_2; first | rwa [add_block] at this | exact this) GW145.out)) | (show (Addr.add _ _).block ≠ _; rw [add_block]; exact Nat.ne_of_lt (Nat.lt_of_lt_of_le (by have := World.block_lt_of_cell? _ _ hw139_2; first | rwa [add_block] at this | exact this) GW145.out)) | (dsimp only; exact Nat.ne_of_lt (Nat.lt_of_lt_of_le (by have := World.block_lt_of_cell? _ _ hw139_2; first | rwa [add_block] at this | exact this) GW145.out))) _).trans (((cell_far (p := ⟨gb145, _, none⟩) (by first | exact Nat.ne_of_lt (Nat.lt_of_lt_of_le (by have := World.block_lt_of_cell? _ _ hw139_2; first | rwa [add_block] at this | exact this) GW145.out) | (rw [add_block]; exact Nat.ne_of_lt (Nat.lt_of_lt_of_le (by have := World.block_lt_of_cell? _ _ hw139_2; first | rwa [add_block] at this | exact this) GW145.out)) | (show (Addr.add _ _).block ≠ _; rw [add_block]; exact Nat.ne_of_lt (Nat.lt_of_lt_of_le (by have := World.block_lt_of_cell? _ _ hw139_2; first | rwa [add_block] at this | exact this) GW145.out)) | (dsimp only; exact Nat.ne_of_lt (Nat.lt_of_lt_of_le (by have := World.block_lt_of_cell? _ _ hw139_2; first | rwa [add_block] at this | exact this) GW145.out))) _).trans (hHeld.2.2.2.2))))⟩ (fun hHeld => ?_)
                        clear hK K
                        refine iM (i := 19) (N := some 12) (v := ?_) (a' := ?_) #[true, true, true, true, true, true, true, true, true, true, true, true, true, true, true, true, true, true, true, true] rfl rfl (iI HT_.out (by kernel_rfl)) (fun _ _ _ h => h) (Or.inl ⟨by rfl, ?_⟩) ?_ ?_
                        rotate_left
                        · intro w'
                          go_simp
                          with_reducible rfl
                        rotate_left
                        · simp only [Act.put, List.setIfInBounds_toArray, List.set_cons_zero, List.set_cons_succ, iJ, iK]
                          rfl
                        refine kP (jM HT_.out (by kernel_rfl)) ?_
                        try go_wp2
                        go_roundg kj10
                        case measure => have := HK1.out; have := HJ10.out; omega
                        case rel => exact ⟨(wrap64 (x8_1 + 1)), (x137000_1), (x137001_1), (.slice Ao34 x137001_1.length co34), (by first | rfl | (simp; done) | (simp [*]; done)), H', ⟨by have := HK1.out; have := HJ10.out; omega⟩, ⟨by (with_reducible repeat (first | apply Kd.R_alloc | apply Kd.R_drewN | apply Kd.R_drew)); exact Kd.R_mono (Kd.R_far (p := ⟨gb145, 1, none⟩) (Kd.R_far (p := ⟨gb145, 0, none⟩) (Kd.R_types HO_137001.out BK145.out (by decide)) (fun _ hk => hk.2) (.int .u32 t140)) (fun _ hk => hk.2) (.slice Ao40 t141.length co40)) (fun _ hk => trivial)⟩, ⟨by (with_reducible repeat (first | refine iR ?_ _ | refine iU ?_ | refine iO ?_ _)); refine jT ?_ NB131_145.out _; (with_reducible repeat (first | refine iR ?_ _ | refine iU ?_ | refine iO ?_ _)); refine jT ?_ NB131_145.out _; (with_reducible repeat (first | refine iR ?_ _ | refine iU ?_ | refine iO ?_ _)); exact BK131.out⟩, ⟨by (with_reducible repeat (first | refine iR ?_ _ | refine iU ?_ | refine iO ?_ _)); refine jT ?_ NB136_145.out _; (with_reducible repeat (first | refine iR ?_ _ | refine iU ?_ | refine iO ?_ _)); refine jT ?_ NB136_145.out _; (with_reducible repeat (first | refine iR ?_ _ | refine iU ?_ | refine iO ?_ _)); exact BK136.out⟩, ⟨by repeat (first | (with_reducible first | exact HB.out | apply iF | apply iG | apply iL | refine iH ?_ GE131.out | refine iH ?_ GE136.out | refine iH ?_ GE145.out) | exact HB.out)⟩⟩
              · rw [if_neg c15] at H
                exact absurd H (by simp)
            · rw [if_neg c14] at H
              exact absurd H (by simp)
          · replace c13 := Bool.eq_false_iff.mpr c13
            subst c13
            have H1 : (some (x137000_1, x137001_1)) = some (r1, r2) := by rw [if_neg (show ¬ (false = true) by decide)] at H; exact H
            clear H
            have H := H1
            clear H1
            simp only [Option.some.injEq, Prod.mk.injEq] at H
            obtain ⟨rfl, rfl⟩ := H
            have hnb42 := NB136_131.out
            have hnc42 := NB131_136.out
            have hcz43_0 : wc.cell? ⟨gb136, 0, none⟩ = some (.int .u32 x137000_1) := (iD BK136.out 0).trans rfl
            have hcz43_1 : wc.cell? ⟨gb136, 1, none⟩ = some (u137001) := (iD BK136.out 1).trans rfl
            have hfz43_0 := iE BK136.out 0
            have hfz43_1 := iE BK136.out 1
            have hcz44_0 : wc.cell? ⟨gb131, 0, none⟩ = some (.int .u32 0) := (iD BK131.out 0).trans rfl
            have hcz44_1 : wc.cell? ⟨gb131, 1, none⟩ = some (.slice none 0 0) := (iD BK131.out 1).trans rfl
            have hfz44_0 := iE BK131.out 0
            have hfz44_1 := iE BK131.out 1
            obtain ⟨Ao45, co45, eo45⟩ := Kd.R_slice HO_137001.out
            subst eo45
            go_wp2
            refine bodyPost_ret (results_cell_row rfl _ _ gb131 42 #[.int .u32 x137000_1, .slice Ao45 x137001_1.length co45] (0, 0) _ rfl (by (with_reducible repeat (first | refine iR ?_ _ | refine iU ?_ | refine iO ?_ _)); refine iZ (cs := #[.int .u32 x137000_1, .slice none 0 0]) ?_ 1 _ rfl; (with_reducible repeat (first | refine iR ?_ _ | refine iU ?_ | refine iO ?_ _)); refine iZ (cs := #[.int .u32 0, .slice none 0 0]) ?_ 0 _ rfl; (with_reducible repeat (first | refine iR ?_ _ | refine iU ?_ | refine iO ?_ _)); exact BK131.out) Try.underlying42 rfl (by kernel_rfl)) rfl ?_
            exact ⟨_, by first | rfl | (simp [jF, jG] <;> rfl) | (simp [*, jF, jG] <;> rfl), by (with_reducible repeat (first | apply Kd.R_alloc | apply Kd.R_drewN | apply Kd.R_drew)); exact Kd.R_mono (Kd.R_far (p := ⟨gb131, 1, none⟩) (Kd.R_far (p := ⟨gb131, 0, none⟩) (Kd.R_types HO_137001.out BK131.out (by decide)) (fun _ hk => hk.2) (.int .u32 x137000_1)) (fun _ hk => hk.2) (.slice Ao45 x137001_1.length co45)) (fun _ hk => trivial), by repeat (first | (with_reducible first | exact HB.out | apply iF | apply iG | apply iL | refine iH ?_ GE131.out | refine iH ?_ GE136.out) | exact HB.out)⟩
end Go.Proofs.Ytjppookmjdaplaa.K
end

section
namespace Go.Proofs.Ytjppookmjdaplaa.K
open Go Go.RowKit Go.Proofs.YtjppookmjdaplaaW.PrintWords Go.Proofs.YtjppookmjdaplaaW.PrintLast Go.Proofs.YtjppookmjdaplaaW.PrintMore
abbrev TCu := S91
/-- A choice is of its kind. -/
def yT (x : TCu) : Prop := (0 ≤ x.f0 ∧ x.f0 < 65536) ∧ (0 ≤ x.f1 ∧ x.f1 < 65536) ∧ (0 ≤ x.f2 ∧ x.f2 < 256)
theorem qF (x : Int) (h0 : 0 ≤ x) (h1 : x < 9223372036854775808) : wrap64 x = x := by unfold wrap64; omega
theorem zT (x n : Int) (h0 : 0 ≤ x) (h1 : 0 < n) : 0 ≤ Int.tmod x n ∧ Int.tmod x n < n := by
  rw [Int.tmod_eq_emod_of_nonneg h0]
  exact ⟨Int.emod_nonneg _ (by omega), Int.emod_lt_of_pos _ h1⟩
/-- A range of a map. -/
structure Rng (n fr tt : Int) : Prop where
  lo : 0 ≤ fr
  lt : fr < tt
  hi : tt ≤ n
theorem LP (n x y : Int) (hn : 1 ≤ n) (hn2 : n ≤ 10000) (hx : 0 ≤ x ∧ x < 65536) (hy : 0 ≤ y ∧ y < 65536) :
    wrap64 (n - Int.tmod (wrap64 x) n) ≠ 0 ∧ Rng n (Int.tmod (wrap64 x) n) (wrap64 (wrap64 (Int.tmod (wrap64 x) n + 1) + Int.tmod (wrap64 y) (wrap64 (n - Int.tmod (wrap64 x) n)))) := by
  rw [qF x hx.1 (by omega), qF y hy.1 (by omega)]
  have h1 := zT x n hx.1 (by omega)
  generalize Int.tmod x n = a at h1
  rw [qF (n - a) (by omega) (by omega), qF (a + 1) (by omega) (by omega)]
  have h2 := zT y (n - a) hy.1 (by omega)
  generalize Int.tmod y (n - a) = b at h2
  rw [qF (a + 1 + b) (by omega) (by omega)]
  exact ⟨by omega, ⟨by omega, by omega, by omega⟩⟩
theorem IQ (l : List TCu) (i : Nat) (h : i < l.length) : jB l (i : Int) = l[i] := by
  show l.getD (i : Int).toNat _ = _
  rw [Int.toNat_natCast, List.getD_eq_getElem?_getD, List.getElem?_eq_getElem h]; rfl
theorem IZ (n : Nat) (nodes : Int) (hn : 1 ≤ n) (hn2 : n ≤ 10000) (hm : 1 ≤ nodes) (hm2 : nodes ≤ 6) (cs : List TCu) (hcs : ∀ x ∈ cs, yT x) :
    ∀ (j i k : Nat) (a : Int) (L : List TSp), i + j = 30 → 20200 + 2 * j < k → 0 ≤ a → a < 4294967296 → Snd L n nodes →
      ∃ a' L', stratumlaw12_Of.l0 k n nodes cs i a L = some (a', L') ∧ (0 ≤ a' ∧ a' < 4294967296) ∧ Snd L' n nodes
  | j, i, 0, _, _, _, h, _, _, _ => by omega
  | j, i, 1, _, _, _, h, _, _, _ => by omega
  | 0, i, k + 2, a, L, hi, hk, h0, h1, hL => by
    refine ⟨a, L, ?_, ⟨h0, h1⟩, hL⟩
    have hj : ∀ b, b = false → stratumlaw12_Of.j1 (k + 1) n nodes cs i b a L = some (a, L) := fun b hb => by rw [stratumlaw12_Of.j1, hb, if_neg (by decide)]
    rw [stratumlaw12_Of.l0]
    split
    · exact hj _ (decide_eq_false (by omega))
    · exact hj _ rfl
  | j + 1, i, k + 2, a, L, hi, hk, h0, h1, hL => by
    rw [stratumlaw12_Of.l0]
    by_cases hlt : i < cs.length
    · have hx := hcs cs[i] (List.getElem_mem hlt)
      have hw : wrap64 ((i : Int) + 1) = ((i + 1 : Nat) : Int) := by unfold wrap64; omega
      obtain ⟨hr0, hr⟩ := LP n cs[i].f0 cs[i].f1 (by omega) (by omega) hx.1 hx.2.1
      have ht := zT (wrap64 cs[i].f2) nodes (by rw [qF _ hx.2.2.1 (by have := hx.2.2.2; omega)]; exact hx.2.2.1) (by omega)
      have hmn : mn nodes 6 = nodes := by unfold mn; split <;> omega
      rw [if_pos (by omega), stratumlaw12_Of.j1, decide_eq_true (by omega : (i : Int) < 30), if_pos rfl, if_pos (by omega), if_pos (by omega), if_neg (by omega), IQ cs i hlt, if_neg hr0, if_neg (by omega), zY k a L n nodes _ _ _ (by have := hL.len; omega) (by have := hL.len; omega), hw]
      simp only [Option.bind_some]
      rcases uB a hL hr.lo hr.lt hr.hi ht.1 (by rw [hmn]; exact ht.2) (by omega) with ⟨he, _⟩ | ⟨_, ⟨he, _⟩ | ⟨he, hs⟩⟩
      · rw [he]
        rw [if_neg (by decide)]
        exact IZ n nodes hn hn2 hm hm2 cs hcs j (i + 1) k a L (by omega) (by omega) h0 h1 hL
      · rw [he]
        rw [if_neg (by decide)]
        exact IZ n nodes hn hn2 hm hm2 cs hcs j (i + 1) k a L (by omega) (by omega) h0 h1 hL
      · rw [he]
        rw [if_pos rfl]
        exact IZ n nodes hn hn2 hm hm2 cs hcs j (i + 1) k _ _ (by omega) (by omega) (Int.emod_nonneg _ (by decide)) (Int.emod_lt_of_pos _ (by decide)) hs
    · rw [if_neg (by omega), stratumlaw12_Of.j1, if_neg (by decide)]
      exact ⟨a, L, rfl, ⟨h0, h1⟩, hL⟩
theorem NT (n : Nat) (nodes : Int) (hn : 1 ≤ n) (hn2 : n ≤ 10000) (hm : 1 ≤ nodes) (hm2 : nodes ≤ 6) (cs : List TCu) (hcs : ∀ x ∈ cs, yT x) (k : Nat) (hk : 20300 < k) :
    ∃ a L, stratumlaw12_Of.f k n nodes cs = some (a, L) ∧ (0 ≤ a ∧ a < 4294967296) ∧ Snd L n nodes :=
  IZ n nodes hn hn2 hm hm2 cs hcs 30 0 k 1 [⟨0, 0⟩] (by omega) (by omega) (by decide) (by decide) (MB n nodes (by omega) hm)
end Go.Proofs.Ytjppookmjdaplaa.K
end

section
namespace Go.Proofs.Ytjppookmjdaplaa.K
open Go Go.RowKit Go.Maps Go.Proofs.YtjppookmjdaplaaW.PrintWords Go.Proofs.YtjppookmjdaplaaW.PrintLast Go.Proofs.YtjppookmjdaplaaW.PrintMore Go.Proofs.Ytjppookmjdaplaa.My
theorem MR (w : World) (e : Int) (A : Option Addr) (n c : Nat) : (Instr.build 48 #[(0, .int .u8 6), (5, .agg #[.int .u32 e, .slice A n c])]).run Try.prog w = .ok (.agg #[.int .u8 6, .int .u32 0, .int .u32 0, .slice none 0 0, .slice none 0 0, .int .u32 e, .slice A n c, .int .i64 0, .int .i64 0, .slice none 0 0]) w := run_build w 48 _ _ (by kernel_rfl)
/-- A row of spans stays while what the boss knows changes. -/
theorem fr_S {B B' : Nat} {w : World} {ok : Nat → Prop} {A : Option Addr} {c n : Nat} {l : List TSp} (h : kS.R 96 w B' ok (.slice A n c) l) : ∀ W', CoFr B w W' → kS.C W' A l.length l := fun _ hf => by
  have h1 := hf.rows h (fun q hq => by (obtain rfl : q = 96 := (by simpa [show kS.E = [] from rfl] using hq)); exact (by decide))
  obtain ⟨A', c', e', _, h2⟩ := Kd.R_reads h1
  injection e' with e1 e2 e3
  subst e1
  exact h2
attribute [-go_sem] Instr.build
attribute [local go_sem] MR II
end Go.Proofs.Ytjppookmjdaplaa.K
end

section
namespace Go.Proofs.Ytjppookmjdaplaa.K
/-- What is committed stays so; times don't fall. -/
structure kN (s s' : CS) : Prop where
  keep : ∀ id t, s.status id = (2, t) → s'.status id = (2, t)
  last : s.last ≤ s'.last
  len : s'.L.length ≤ s.L.length + 1
theorem kN.refl (s : CS) : kN s s := ⟨fun _ _ h => h, Int.le_refl _, Nat.le_succ _⟩
theorem uT {s : CS} {id t : Int} (h : s.status id = (2, t)) : ∃ b, getB s.L id = some b ∧ b.st = 2 ∧ b.at_ = t := by
  unfold CS.status at h
  cases hg : getB s.L id with
  | none => rw [hg] at h; simp at h
  | some b => rw [hg] at h; simp at h; exact ⟨b, rfl, h.1, h.2⟩
theorem yZ {s : CS} {id t : Int} {b : CB} (hg : getB s.L id = some b) (h1 : b.st = 2) (h2 : b.at_ = t) : s.status id = (2, t) := by
  unfold CS.status; rw [hg]; simp [h1, h2]
theorem kN.of {s s' : CS} (hk : ∀ id b, getB s.L id = some b → b.st = 2 → ∃ b', getB s'.L id = some b' ∧ b'.st = 2 ∧ b'.at_ = b.at_) (hl : s.last ≤ s'.last) (hn : s'.L.length ≤ s.L.length + 1) : kN s s' :=
  ⟨fun id t h => by
    obtain ⟨b, h1, h2, h3⟩ := uT h
    obtain ⟨b', g1, g2, g3⟩ := hk id b h1 h2
    exact yZ g1 g2 (g3.trans h3), hl, hn⟩
theorem J6 (l : List (Int × CB)) (id : Int) (b : CB) : (setB l id b).length = l.length := by simp [setB]
theorem IB (l : List (Int × CB)) (id : Int) : (cutB l id).length ≤ l.length := List.length_filter_le _ _
theorem rY {s : CS} {id : Int} {b b' : CB} (hg : getB s.L id = some b) (h1 : b'.st = b.st) (h2 : b'.at_ = b.at_) : kN s (s.withL (setB s.L id b')) := by
  refine kN.of (fun i c hc h2' => ?_) (Int.le_refl _) (by show (setB s.L id b').length ≤ _; rw [J6]; omega)
  show ∃ x, getB (setB s.L id b') i = some x ∧ _
  rw [qV]
  by_cases e : i = id
  · subst e
    rw [hg] at hc
    injection hc with hc
    subst hc
    rw [if_pos rfl, hg]
    exact ⟨b', rfl, h1.trans h2', h2⟩
  · rw [if_neg e]; exact ⟨c, hc, h2', rfl⟩
theorem uI {s : CS} {o : Option CB} {id : Int} (ho : ∀ b, o = some b → getB s.L id = some b) (n : Int) : kN s (s.say o id n) := by
  cases o with
  | none => exact kN.refl s
  | some b => exact rY (ho b rfl) (b.say_st n) (b.say_at n)
theorem xW (s : CS) (id n : Int) : kN s (s.vote id n) := uI (fun _ h => (CS.inn_get h).1) n
theorem xN (s : CS) (id n : Int) : kN s (s.done id n) := uI (fun b h => by
  unfold CS.owe at h
  cases hi : s.inn id 2 with
  | none => rw [hi] at h; cases h
  | some c =>
    rw [hi] at h
    simp [Option.filter] at h
    rw [← h.2]
    exact (CS.inn_get hi).1) n
theorem yM (s : CS) (id : Int) : kN s (s.end_ id) := by
  unfold CS.end_
  cases hi : s.inn id 2 with
  | none => exact kN.refl s
  | some b => exact rY (CS.inn_get hi).1 rfl rfl
theorem zQ (s : CS) (e : Int) (sp : List TSp) : kN s (s.map_ e sp) := by
  unfold CS.map_
  split
  · exact ⟨fun _ _ h => h, Int.le_refl _, Nat.le_succ _⟩
  · exact kN.refl s
theorem xG (s : CS) (id : Int) : kN s (s.drop id) := by
  unfold CS.drop
  cases hi : s.inn id 1 with
  | none => exact kN.refl s
  | some b =>
    show kN s (s.withL (cutB s.L id))
    refine kN.of (fun i c hc h2 => ?_) (Int.le_refl _) (Nat.le_trans (IB _ _) (Nat.le_succ _))
    show ∃ x, getB (cutB s.L id) i = some x ∧ _
    rw [lS]
    by_cases e : i = id
    · subst e
      obtain ⟨h3, h4⟩ := CS.inn_get hi
      rw [h3] at hc
      injection hc with hc
      subst hc
      omega
    · rw [if_neg e]; exact ⟨c, hc, h2, rfl⟩
theorem uC (s : CS) (id t : Int) (l : List Int) : kN s (s.commit id t l) := by
  unfold CS.commit
  by_cases h1 : (s.inn id 2).isSome
  · rw [if_pos h1]; exact kN.refl s
  · rw [if_neg h1]
    by_cases h2 : t ≤ s.last
    · rw [if_pos h2]; exact kN.refl s
    · rw [if_neg h2]
      refine kN.of (fun i c hc h3 => ?_) (by show s.last ≤ t; omega) (by show (cutB s.L id ++ [_]).length ≤ _; rw [List.length_append]; have := IB s.L id; simp only [List.length_cons, List.length_nil]; omega)
      show ∃ x, getB (cutB s.L id ++ [_]) i = some x ∧ _
      rw [nC, lS]
      by_cases e : i = id
      · subst e
        exfalso
        apply h1
        unfold CS.inn
        rw [hc]
        simp [Option.filter, h3]
      · rw [if_neg e, hc]; exact ⟨c, rfl, h3, rfl⟩
theorem vM (s : CS) (hn : (keysB s.L).Nodup) (id : Int) : kN s (s.start id) := by
  unfold CS.start
  split
  · exact kN.refl s
  · refine kN.of (fun i c hc h3 => ?_) (Int.le_refl _) (Nat.le_trans (List.length_filter_le _ _) (Nat.le_succ _))
    show ∃ x, getB (s.L.filter fun p => decide (p.2.st ≠ 1)) i = some x ∧ _
    rw [nD hn (fun b => decide (b.st ≠ 1)), hc]
    refine ⟨c, ?_, h3, rfl⟩
    simp [Option.filter, h3]
theorem pU (s : CS) (l : List Int) : kN s (s.begin_ l) := by
  unfold CS.begin_
  split
  · exact kN.refl s
  · split
    · exact kN.refl s
    · split
      · exact ⟨fun _ _ h => h, Int.le_refl _, Nat.le_succ _⟩
      · refine kN.of (fun i c hc h3 => ?_) (Int.le_refl _) (by show (s.L ++ [_]).length ≤ _; rw [List.length_append]; exact Nat.le_refl _)
        show ∃ x, getB (s.L ++ [_]) i = some x ∧ _
        rw [nC, hc]
        exact ⟨c, rfl, h3, rfl⟩
end Go.Proofs.Ytjppookmjdaplaa.K
end

section
namespace Go.Proofs.Ytjppookmjdaplaa.K
open Go Go.RowKit Go.Maps Go.Proofs.YtjppookmjdaplaaW.PrintWords Go.Proofs.YtjppookmjdaplaaW.PrintLast Go.Proofs.YtjppookmjdaplaaW.PrintMore Go.Proofs.Ytjppookmjdaplaa.My
/-- Both, and the numbers that were begun. -/
structure Tw (w : World) (B tp c rc n : Nat) (s : CS) (ids : List Int) : Prop where
  tB : B ≤ tp
  blk : ∃ A k, w.heap[tp]? = some (Obj.cells #[.pointer (some ⟨c, 0, none⟩), .pointer (some ⟨rc, 0, none⟩), .slice A ids.length k] 65 (0, 0)) ∧ ku.R 28 w B (fun _ => True) (.slice A ids.length k) ids
  co : Co c w B c n s
  ro : Ro w B rc s
  idr : ∀ x ∈ ids, 0 ≤ x ∧ x < 4294967296
theorem Tw.Ble {w : World} {B tp c rc n : Nat} {s : CS} {ids : List Int} (h : Tw w B tp c rc n s ids) : B ≤ w.heap.size := h.ro.Ble
theorem Tw.below {w w' : World} {B tp c rc n : Nat} {s : CS} {ids : List Int} (h : Tw w B tp c rc n s ids) (hb : Below w.heap.size w w') : Tw w' B tp c rc n s ids := by
  obtain ⟨A, k, h1, h2⟩ := h.blk
  exact ⟨h.tB, ⟨A, k, iV hb h1, Kd.R_below h2 hb⟩, h.co.below hb, h.ro.below hb, h.idr⟩
/-- The program's side has come to another state. -/
theorem Tw.both {w w1 w2 : World} {B tp c rc n n' : Nat} {s s' : CS} {ids : List Int} (h : Tw w B tp c rc n s ids) (hc : Co c w1 B c n' s') (hf : CoFr B w w1) (hr : Ro w2 B rc s') (hg : RoFr B w1 w2) : Tw w2 B tp c rc n' s' ids := by
  obtain ⟨A, k, h1, h2⟩ := h.blk
  have h3 := hf.cells _ _ _ _ h1 (by decide) (by decide)
  exact ⟨h.tB, ⟨A, k, hg.keep _ _ h3 (fun cs t fz e => by injection e with _ e2 _; subst e2; exact ⟨by decide, by decide⟩), hg.rows (hf.rows h2 (fun q hq => by (obtain rfl : q = 28 := (by simpa [show ku.E = [] from rfl] using hq)); exact (by decide))) (fun q hq => by (obtain rfl : q = 28 := (by simpa [show ku.E = [] from rfl] using hq)); exact (by decide))⟩, hc.ro hg, hr, h.idr⟩
/-- What a call on both leaves of the rest: all below, and rows of Status. -/
structure DFr (B : Nat) (w w' : World) : Prop where
  below : Below B w w'
  keep : ∀ (k : Nat) (cs : Array Value) (fz : Nat × Nat), w.heap[k]? = some (Obj.cells cs 36 fz) → w'.heap[k]? = some (Obj.cells cs 36 fz)
theorem DFr.trans {B : Nat} {w w1 w2 : World} (h : DFr B w w1) (k : DFr B w1 w2) : DFr B w w2 := ⟨h.below.trans k.below, fun i cs fz hi => k.keep i cs fz (h.keep i cs fz hi)⟩
theorem DFr.of_below {B : Nat} {w w' : World} (h : Below w.heap.size w w') (hB : B ≤ w.heap.size) : DFr B w w' := ⟨h.mono hB, fun k _ _ hk => (h.block k (jJ hk)).trans hk⟩
theorem DFr.of_co {B : Nat} {w w' : World} (h : CoFr B w w') : DFr B w w' := ⟨h.below, fun k cs fz hk => h.cells k cs _ fz hk (by decide) (by decide)⟩
theorem DFr.of_ro {B : Nat} {w w' : World} (h : RoFr B w w') : DFr B w w' := ⟨h.below, fun k cs fz hk => h.keep k _ hk (fun cs t fz e => by injection e with _ e2 _; subst e2; exact ⟨by decide, by decide⟩)⟩
theorem DFr.of_grown {B : Nat} {w w' : World} {row : Option Nat} (hg : w.grownBy w' row) (hB : B ≤ w.heap.size) (hr : ∀ k, row = some k → B ≤ k ∧ ∃ cs t, w.heap[k]? = some (Obj.cells cs t (0, 0)) ∧ t ≠ 36) : DFr B w w' :=
  ⟨(Below.refl B w).grown hg hB (fun k hk => (hr k hk).1), fun k cs fz hk => (hg.block k (jJ hk) (fun e => by
    obtain ⟨_, cs', t, h1, h2⟩ := hr k e.symm
    rw [hk] at h1
    injection h1 with h1
    injection h1 with _ h1 _
    exact h2 h1.symm)).trans hk⟩
theorem I8 {α : Type} {d : Kd α} {e B : Nat} {ok : Nat → Prop} {w : World} {v : Value} {l : List α} (hr : d.R e w B ok v l) (k : Nat) (hk : v.ownBlock = some k) : B ≤ k ∧ ∃ cs, w.heap[k]? = some (Obj.cells cs e (0, 0)) := by
  obtain ⟨inner, ho⟩ := Kd.R_own hr
  obtain ⟨cs, hc⟩ := jZ ho k hk
  exact ⟨own_base ho k hk, cs, hc⟩
theorem Ro.other {w w' : World} {B rc : Nat} {s : CS} (h : Ro w B rc s) {row : Option Nat} (hg : w.grownBy w' row) (hr : ∀ k, row = some k → ∃ cs t, w.heap[k]? = some (Obj.cells cs t (0, 0)) ∧ t ≠ 109 ∧ t ≠ 130 ∧ t ≠ 3 ∧ t ≠ 96) : Ro w' B rc s := by
  have hk : ∀ {j : Nat} {t : TypeId} {cs : Array Value}, w.heap[j]? = some (Obj.cells cs t (0, 0)) → (t = 109 ∨ t = 130 ∨ t = 3 ∨ t = 96) → w'.heap[j]? = w.heap[j]? := fun {j t cs} hj ht => hg.block j (jJ hj) (fun e => by
    obtain ⟨cs', t', h1, h2, h3, h4, h5⟩ := hr j e.symm
    rw [hj] at h1
    injection h1 with h1
    injection h1 with _ h1 _
    subst h1
    rcases ht with rfl | rfl | rfl | rfl
    · exact h2 rfl
    · exact h3 rfl
    · exact h4 rfl
    · exact h5 rfl)
  obtain ⟨A, k, A', k', h1, h2, h3⟩ := h.blk
  refine ⟨h.cB, ⟨A, k, A', k', (hk h1 (.inl rfl)).trans h1, kZ h2 (fun j q cs hq hj => hk hj ?_), kZ h3 (fun j q cs hq hj => hk hj ?_)⟩, h.sd⟩
  · rw [kB_E] at hq
    simp at hq
    rcases hq with rfl | rfl
    · exact .inr (.inl rfl)
    · exact .inr (.inr (.inl rfl))
  · (obtain rfl : q = 96 := (by simpa [show kS.E = [] from rfl] using hq)); exact .inr (.inr (.inr rfl))
/-- A number more. -/
theorem Tw.push {w w1 : World} {B tp c rc n : Nat} {s : CS} {ids : List Int} (h : Tw w B tp c rc n s ids) {A : Option Addr} {k : Nat} (hb : w.heap[tp]? = some (Obj.cells #[.pointer (some ⟨c, 0, none⟩), .pointer (some ⟨rc, 0, none⟩), .slice A ids.length k] 65 (0, 0))) (hR : ku.R 28 w B (fun _ => True) (.slice A ids.length k) ids)
    {A1 : Option Addr} {k1 : Nat} {x : Int} (hx : 0 ≤ x ∧ x < 4294967296) (ho : ku.R 28 w1 B (fun _ => True) (.slice A1 (ids ++ [x]).length k1) (ids ++ [x])) (hg : w.grownBy w1 (Value.slice A ids.length k).ownBlock) :
    Tw (w1.setCell ⟨tp, 2, none⟩ (.slice A1 (ids ++ [x]).length k1)) B tp c rc n s (ids ++ [x]) ∧ DFr B w (w1.setCell ⟨tp, 2, none⟩ (.slice A1 (ids ++ [x]).length k1)) := by
  have ht : w1.heap[tp]? = _ := jR (g := tp) hb hg (Kd.R_ne hR hb (by decide))
  have hs := kM w1 tp 2 (.slice A1 (ids ++ [x]).length k1)
  have hty := I8 hR
  refine ⟨⟨h.tB, ⟨A1, k1, iZ ht 2 _ rfl, Kd.R_set ho ht (by decide) 2 _⟩, ?_, ?_, ?_⟩, ?_⟩
  · exact (h.co.app hR hg ⟨by decide, by decide, by decide, by decide⟩).other ht hs (by decide) (by decide) (by decide) (fun e => absurd e (by decide))
  · refine (h.ro.other hg (fun j hj => ?_)).other hs (fun j hj => ?_)
    · obtain ⟨_, cs, hc⟩ := hty j hj
      exact ⟨cs, _, hc, by decide, by decide, by decide, by decide⟩
    · cases hj
      exact ⟨_, _, ht, by decide, by decide, by decide, by decide⟩
  · intro y hy
    rcases List.mem_append.1 hy with hy | hy
    · exact h.idr y hy
    · obtain rfl := List.mem_singleton.1 hy; exact hx
  · refine (DFr.of_grown hg h.Ble (fun j hj => ?_)).trans (DFr.of_grown hs (Nat.le_trans h.Ble hg.size) (fun j hj => ?_))
    · obtain ⟨hB, cs, hc⟩ := hty j hj
      exact ⟨hB, cs, _, hc, by decide⟩
    · cases hj
      exact ⟨h.tB, _, _, ht, by decide⟩
theorem vC {s : CS} (hn : (keysB s.L).Nodup) (k id t : Int) (l : List Int) (e : Int) (sp : List TSp) : kN s (s.apply k id t l e sp) := by
  unfold CS.apply
  split
  · exact uC s id t l
  · split
    · exact vM s hn id
    · split
      · exact yM s id
      · split
        · exact zQ s e sp
        · exact kN.refl s
theorem R_Cd {α : Type} {d : Kd α} {e B : Nat} {ok : Nat → Prop} {w : World} {A : Option Addr} {n c : Nat} {l : List α} (h : d.R e w B ok (.slice A n c) l) : n = l.length ∧ n ≤ c ∧ d.C w A l.length l := by
  obtain ⟨A', c', e', h1, h2⟩ := Kd.R_reads h
  injection e' with e1 e2 e3
  subst e1; subst e2; subst e3
  exact ⟨rfl, h1, h2⟩
theorem yA (s : CS) (k id t e : Int) : 0 ≤ s.applyE k id t e ∧ s.applyE k id t e ≤ 200 := by
  unfold CS.applyE CS.commitE CS.startE CS.endE CS.mapE
  repeat' split
  all_goals omega
theorem xP (s : CS) (hok : s.Ok) (l : List Int) : ((s.beginId l).2 = 0 ∨ (s.beginId l).2 = 1 ∨ (s.beginId l).2 = 3 ∨ (s.beginId l).2 = 140) ∧ (0 ≤ (s.beginId l).1 ∧ (s.beginId l).1 < 4294967296) := by
  have h1 := hok.starts
  have h2 := hok.begun
  unfold CS.beginId
  split
  · exact ⟨.inr (.inl rfl), by simp⟩
  · split
    · exact ⟨.inr (.inr (.inl rfl)), by simp⟩
    · split
      · exact ⟨.inr (.inr (.inr rfl)), by simp⟩
      · exact ⟨.inl rfl, by simp only; omega⟩
/-- Apply of a record that rec makes, on both. -/
theorem zC {w : World} {B c n : Nat} {s : CS} {k id t e : Int} {A A6 : Option Addr} {q q6 : Nat} {l : List Int} {sp : List TSp} (h : Co c w B c n s) (hk : k = 2 ∨ k = 4 ∨ k = 5 ∨ k = 6) (hr : RecA w B k id t A q l e A6 q6 sp) (hn : n < 1000000) :
    Calls Try.prog 18 #[.pointer (some ⟨c, 0, none⟩), .agg #[.int .u8 k, .int .u32 id, .int .u32 t, .slice A l.length q, .slice none 0 0, .int .u32 e, .slice A6 sp.length q6, .int .i64 0, .int .i64 0, .slice none 0 0]] w fun e_ w' => e_ = .returned (.int .u16 (s.applyE k id t e)) ∧ Co c w' B c (n + 1) (s.apply k id t l e sp) ∧ CoFr B w w' := by
  have hm : ∀ {w' : World} {s' : CS}, Co c w' B c n s' → Co c w' B c (n + 1) s' := fun {w' s'} ⟨mb, D, ptr, mp, hx⟩ => ⟨mb, D, ptr, mp, hx.mono (Nat.le_succ _)⟩
  rcases hk with rfl | rfl | rfl | rfl
  · exact oJ h hr hn
  · exact (yQ h hr).mono (fun e_ w' ⟨h1, h2, h3⟩ => ⟨h1, hm h2, h3⟩)
  · exact (pR h hr).mono (fun e_ w' ⟨h1, h2, h3⟩ => ⟨h1, hm h2, h3⟩)
  · exact (IK h hr).mono (fun e_ w' ⟨h1, h2, h3⟩ => ⟨h1, hm h2, h3⟩)
theorem xI {w : World} {B rc : Nat} {s : CS} {k id t e : Int} {A A6 : Option Addr} {q q6 : Nat} {l : List Int} {sp : List TSp} (h : Ro w B rc s) (hok : s.Ok) (hn : s.L.length ≤ 1000000) (hk : k = 2 ∨ k = 4 ∨ k = 5 ∨ k = 6) (hr : ∀ W', RoFr B w W' → ki.C W' A l.length l) (hq : l.length ≤ q) (hl : Rt l) (h6 : ∀ W', RoFr B w W' → kS.C W' A6 sp.length sp) (hq6 : sp.length ≤ q6) (hsp : sp.length ≤ 1000) :
    Calls Try.prog 63 #[.pointer (some ⟨rc, 0, none⟩), .agg #[.int .u8 k, .int .u32 id, .int .u32 t, .slice A l.length q, .slice none 0 0, .int .u32 e, .slice A6 sp.length q6, .int .i64 0, .int .i64 0, .slice none 0 0]] w fun e_ w' => e_ = .returned (.int .i64 (s.applyE k id t e)) ∧ Ro w' B rc (s.apply k id t l e sp) ∧ RoFr B w w' := by
  rcases hk with rfl | rfl | rfl | rfl
  · exact qX h hok hn hr hq hl
  · exact xJ h hok
  · exact rZ h hn
  · exact yI h h6 hq6 hsp
end Go.Proofs.Ytjppookmjdaplaa.K
end
