/- Parts of the proof, one behind the other: K6, SpH0, CoM, Came, CameS, CameP. -/
import Derived.Test.YtjppookmjdaplaaQCoordMaps3
import Derived.Test.YtjppookmjdaplaaRows
import Derived.Deep.Slices
import Derived.ChangeSame
set_option linter.unusedVariables false
set_option linter.unusedSimpArgs false
section
namespace Go.Proofs.Ytjppookmjdaplaa.K
open Go.RowKit Go.Proofs.YtjppookmjdaplaaW.PrintWords Go.Proofs.YtjppookmjdaplaaW.PrintLast Go.Proofs.YtjppookmjdaplaaW.PrintMore
attribute [local go_sem] jM jW
mutual
def stratumlaw12_Of.l0 : Nat → Int → Int → List (S91) → Int → Int → List (S96) → Option (Int × (List (S96)))
  | 0, _, _, _, _, _, _ => none
  | k + 1, x0, x1, x2, x8, x137000, x137001 => if x8 < (x2.length : Int) then (stratumlaw12_Of.j1 k x0 x1 x2 x8 (decide (x8 < 30)) x137000 x137001) else (stratumlaw12_Of.j1 k x0 x1 x2 x8 false x137000 x137001)
def stratumlaw12_Of.j1 : Nat → Int → Int → List (S91) → Int → Bool → Int → List (S96) → Option (Int × (List (S96)))
  | 0, _, _, _, _, _, _, _ => none
  | k + 1, x0, x1, x2, x8, x21, x137000, x137001 => if x21 = true then (if 0 ≤ x8 then (if x8 < (x2.length : Int) then (if x0 = 0 then (none) else (if (wrap64 (x0 - (Int.tmod (wrap64 ((iQ x2 x8).f0)) x0))) = 0 then (none) else (if x1 = 0 then (none) else ((stratumref12_Split.f k x137000 x137001 x0 x1 (Int.tmod (wrap64 ((iQ x2 x8).f0)) x0) (wrap64 ((wrap64 ((Int.tmod (wrap64 ((iQ x2 x8).f0)) x0) + 1)) + (Int.tmod (wrap64 ((iQ x2 x8).f1)) (wrap64 (x0 - (Int.tmod (wrap64 ((iQ x2 x8).f0)) x0)))))) (Int.tmod (wrap64 ((iQ x2 x8).f2)) x1)).bind fun bt140 => (if bt140.2.2 = 0 then (stratumlaw12_Of.l0 k x0 x1 x2 (wrap64 (x8 + 1)) bt140.1 bt140.2.1) else (stratumlaw12_Of.l0 k x0 x1 x2 (wrap64 (x8 + 1)) x137000 x137001)))))) else (none)) else (none)) else (some (x137000, x137001))
end
def stratumlaw12_Of.f (k : Nat) (a0 : Int) (a1 : Int) (l2 : List (S91)) : Option (Int × (List (S96))) := (stratumref12_New.f).bind fun bt132 => (stratumlaw12_Of.l0 k a0 a1 l2 0 bt132.1 bt132.2)
def stratumlaw12_Of.T7 : Bool × List (List Nat × List Nat) := (true, [([], []), ([], []), ([], []), ([], []), ([], []), ([], []), ([], []), ([5, 6], [5, 6]), ([7], [7]), ([8], [8]), ([9], [9]), ([], []), ([10, 11], [10, 11]), ([0, 1, 2, 3, 4, 12], [0, 1, 2, 3, 4, 12]), ([13], [13]), ([14], [14]), ([14], [14]), ([], []), ([17, 15, 13, 0, 1, 2, 3, 4, 5, 6, 7, 8, 9, 10, 11, 12, 13, 14, 15, 17], [15, 17]), ([16, 18, 0, 1, 2, 3, 4, 5, 6, 7, 8, 9, 10, 11, 12, 13, 14, 15, 16, 17, 18], [16])])
def stratumlaw12_Of.B7 : List Nat := [0, 0, 0, 0, 0, 0, 0, 96, 224, 480, 992, 0, 4064, 8191, 16383, 32767, 32767, 0, 196607, 524287]
theorem stratumlaw12_Of.tab7 : rtab .any (opsOf Try.f17 7) = stratumlaw12_Of.T7 := by kernel_rfl
theorem stratumlaw12_Of.bits7 : kK stratumlaw12_Of.T7.2 stratumlaw12_Of.B7 = true := by kernel_rfl
set_option maxHeartbeats 8000000 in
set_option maxRecDepth 100000 in
theorem stratumlaw12_Of.calls (k : Nat) (a0 : Int) (a1 : Int) (A2 : Option Addr) (c2 : Nat) (l2 : List (S91)) (r1 : Int) (r2 : List (S96)) (w : World) (hr2 : Kd.C k91 w A2 l2.length l2) (hc2 : l2.length ≤ c2) (h : stratumlaw12_Of.f k a0 a1 l2 = some (r1, r2)) :
    Calls Try.prog 17 #[.int .i64 a0, .int .i64 a1, .slice A2 l2.length c2] w fun e w' => ∃ v1_ : Value, e = .returned (.agg #[.int .u32 r1, v1_]) ∧ Kd.R k96 96 w' w.heap.size (fun _ => True) v1_ r2 ∧ Below w.heap.size w w' := by
  have hu42 := Try.underlying42
  have HR2 := iC.mk hr2
  have HC2 := iC.mk hc2
  clear hr2 hc2
  have HB := iC.mk (Below.refl w.heap.size w)
  have H : ((stratumref12_New.f).bind fun bt132 => (stratumlaw12_Of.l0 k a0 a1 l2 0 bt132.1 bt132.2)) = some (r1, r2) := h
  clear h
  replace H := Option.bind_eq_some_iff.mp H
  obtain ⟨⟨t132, t133⟩, A40, H⟩ := H
  replace H : (stratumlaw12_Of.l0 k a0 a1 l2 0 t132 t133) = some (r1, r2) := H
  have A4 := iC.mk A40
  clear A40
  have H' := iC.mk H
  clear H
  go_enter Try.func17, Try.ntmps17
  go_wp2_with (first | ((with_reducible refine jT (N := 6) rfl ?_); refine jQ ?hg (N := 6) ?hd (cs := #[.int .u32 0, .slice none 0 0]) (t := 42) ?hr ?_; (case hd => rfl); (case hg => rfl); (case hr => first | (go_simp; done) | (go_simp; rfl)); intro gb131 hg w5 hbox hb; have n0_ := iC.mk (iL hb_ hb); have n1_ := iC.mk (hbox); have n2_ := iC.mk ((by rw [hg]; exact (iM hb_) : w.heap.size ≤ gb131)); have n3_ := iC.mk ((by rw [hg]; exact (iM hb_) : w.heap.size ≤ gb131)); clear HB; have HB := n0_; have BK131 := n1_; have GW131 := n2_; have GE131 := n3_; clear n0_ n1_ n2_ n3_; clear hb hbox hg) | ((with_reducible refine jH (f := 45) rfl ?_); refine lM (some 13) rfl rfl Try.func45 (by kernel_rfl) rfl #[] rfl (by (try simp only [List.map_toArray, List.map_cons, List.map_nil]); first | done | rfl | (simp only [List.length_drop, List.length_take]; rfl)) ?_; (with_reducible refine (stratumref12_New.calls  t132 t133 _ A4.out).mono ?_); rintro e w6 ⟨v134, rfl, ho0, hb⟩; refine ⟨_, rfl, ?_⟩; have n0_ := iC.mk (Kd.R_lower ho0 (iM (by repeat (first | (with_reducible first | exact HB.out | apply iF | apply iD | apply iG | refine iE ?_ GE131.out) | exact HB.out)))); have n1_ := iC.mk (iO (g := gb131) (o := .cells #[.int .u32 0, .slice none 0 0] 42 (0, 0)) (bk_ BK131.out) hb); have n2_ := iC.mk (iL (by repeat (first | (with_reducible first | exact HB.out | apply iF | apply iD | apply iG | refine iE ?_ GE131.out) | exact HB.out)) hb); clear BK131; clear HB; have HO135 := n0_; have BK131 := n1_; have HB := n2_; clear n0_ n1_ n2_; (try clear hb); (try clear hb2); (try clear hk); (try clear hi); (try clear ho0)) | ((with_reducible refine jT (N := 7) rfl ?_); refine jQ ?hg (N := 7) ?hd (cs := #[.int .u32 0, .slice none 0 0]) (t := 42) ?hr ?_; (case hd => rfl); (case hg => rfl); (case hr => first | (go_simp; done) | (go_simp; rfl)); intro gb136 hg w7 hbox hb; have n0_ := iC.mk (Kd.R_below (by (with_reducible repeat (first | apply Kd.R_alloc | apply Kd.R_drewN | apply Kd.R_drew)); exact HO135.out) hb); have n1_ := iC.mk (iO (g := gb131) (o := .cells #[.int .u32 0, .slice none 0 0] 42 (0, 0)) (bk_ BK131.out) hb); have n2_ := iC.mk (iL (by repeat (first | (with_reducible first | exact HB.out | apply iF | apply iD | apply iG | refine iE ?_ GE131.out) | exact HB.out)) hb); have n3_ := iC.mk (hbox); have n4_ := iC.mk ((by rw [hg]; exact (iM (by repeat (first | (with_reducible first | exact HB.out | apply iF | apply iD | apply iG | refine iE ?_ GE131.out) | exact HB.out))) : w.heap.size ≤ gb136)); have n5_ := iC.mk ((by rw [hg]; exact (iM (by repeat (first | (with_reducible first | exact HB.out | apply iF | apply iD | apply iG | refine iE ?_ GE131.out) | exact HB.out))) : w.heap.size ≤ gb136)); have n6_ := iC.mk ((by rw [hg]; exact Nat.ne_of_lt (jD (g := gb131) (o := .cells #[.int .u32 0, .slice none 0 0] 42 (0, 0)) (bk_ BK131.out)) : gb131 ≠ gb136)); have n7_ := iC.mk ((by rw [hg]; exact Nat.ne_of_gt (jD (g := gb131) (o := .cells #[.int .u32 0, .slice none 0 0] 42 (0, 0)) (bk_ BK131.out)) : gb136 ≠ gb131)); clear HO135; clear BK131; clear HB; have HO135 := n0_; have BK131 := n1_; have HB := n2_; have BK136 := n3_; have GW136 := n4_; have GE136 := n5_; have NB131_136 := n6_; have NB136_131 := n7_; clear n0_ n1_ n2_ n3_ n4_ n5_ n6_ n7_; clear hb hbox hg; have hnb8 := NB136_131.out; have hnc8 := NB131_136.out; have hcz9_0 : w7.cell? ⟨gb136, 0, none⟩ = some (.int .u32 0) := (iH BK136.out 0).trans rfl; have hcz9_1 : w7.cell? ⟨gb136, 1, none⟩ = some (.slice none 0 0) := (iH BK136.out 1).trans rfl; have hfz9_0 := iI BK136.out 0; have hfz9_1 := iI BK136.out 1; obtain ⟨Ao10, co10, eo10⟩ := Kd.R_slice HO135.out; subst eo10))
  go_loopg [8] k (fun kq v8 w' => ∃ (x8_1 : Int) (x137000_1 : Int) (x137001_1 : List (S96)) (u137001 : Value), v8 = .int .i64 x8_1 ∧ iC (stratumlaw12_Of.l0 kq a0 a1 l2 x8_1 x137000_1 x137001_1 = some (r1, r2)) ∧ iC (kq ≤ k) ∧ iC (Kd.R k96 96 w' w.heap.size (fun _ => True) u137001 x137001_1) ∧ iC (w'.heap[gb131]? = some (.cells #[.int .u32 0, (.slice none 0 0)] 42 (0, 0))) ∧ iC (w'.heap[gb136]? = some (.cells #[.int .u32 x137000_1, u137001] 42 (0, 0))) ∧ iC (Below w.heap.size w w'))
  case atStart => exact ⟨(0), (t132), (t133), (.slice Ao10 t133.length co10), (by first | rfl | (simp; done) | (simp [*]; done)), H', ⟨Nat.le_refl _⟩, ⟨by (with_reducible repeat (first | apply Kd.R_alloc | apply Kd.R_drewN | apply Kd.R_drew)); exact Kd.R_mono (Kd.R_far (p := ⟨gb136, 1, none⟩) (Kd.R_far (p := ⟨gb136, 0, none⟩) (Kd.R_types HO135.out BK136.out (by decide)) (fun _ hk => hk.2) (.int .u32 t132)) (fun _ hk => hk.2) (.slice Ao10 t133.length co10)) (fun _ hk => trivial)⟩, ⟨by (with_reducible repeat (first | refine iJ ?_ _ | refine iK ?_ | refine blk_alloc ?_ _)); refine jE ?_ NB131_136.out _; (with_reducible repeat (first | refine iJ ?_ _ | refine iK ?_ | refine blk_alloc ?_ _)); refine jE ?_ NB131_136.out _; (with_reducible repeat (first | refine iJ ?_ _ | refine iK ?_ | refine blk_alloc ?_ _)); exact BK131.out⟩, ⟨by (with_reducible repeat (first | refine iJ ?_ _ | refine iK ?_ | refine blk_alloc ?_ _)); refine jA (cs := #[.int .u32 t132, .slice none 0 0]) ?_ 1 _ rfl; (with_reducible repeat (first | refine iJ ?_ _ | refine iK ?_ | refine blk_alloc ?_ _)); refine jA (cs := #[.int .u32 0, .slice none 0 0]) ?_ 0 _ rfl; (with_reducible repeat (first | refine iJ ?_ _ | refine iK ?_ | refine blk_alloc ?_ _)); exact BK136.out⟩, ⟨by repeat (first | (with_reducible first | exact HB.out | apply iF | apply iD | apply iG | refine iE ?_ GE131.out | refine iE ?_ GE136.out) | exact HB.out)⟩⟩
  case round =>
    clear H'
    try clear c1
    try clear c2
    try clear p2
    try clear c4
    try clear c8
    try clear hcz9_0
    try clear hcz9_1
    try clear hfz9_0
    try clear hfz9_1
    obtain ⟨x8_1, x137000_1, x137001_1, u137001, rfl, HA, HK1, HO_137001, BK131, BK136, HB⟩ := hrel
    cases gk with
    | zero => exact absurd HA.out (by simp [stratumlaw12_Of.l0])
    | succ k1 =>
      have H := HA.out
      clear HA
      simp only [stratumlaw12_Of.l0] at H
      have HC11 := iC.mk H
      clear H
      go_upto_region 3 with (fail)
      go_cut [21] (fun v21 wc => ∃ (kq : Nat) (x21_10 : Bool), v21 = .bool x21_10 ∧ iC (stratumlaw12_Of.j1 kq a0 a1 l2 x8_1 x21_10 x137000_1 x137001_1 = some (r1, r2)) ∧ iC (kq ≤ k1) ∧ iC (Kd.R k96 96 wc w.heap.size (fun _ => True) u137001 x137001_1) ∧ iC (wc.heap[gb131]? = some (.cells #[.int .u32 0, (.slice none 0 0)] 42 (0, 0))) ∧ iC (wc.heap[gb136]? = some (.cells #[.int .u32 x137000_1, u137001] 42 (0, 0))) ∧ iC (Below w.heap.size w wc))
      case first =>
        have H := HC11.out
        clear HC11
        by_cases c12 : x8_1 < (l2.length : Int)
        · rw [if_pos c12] at H
          have c12b0 : decide (x8_1 < (l2.length : Int)) = true := decide_eq_true c12
          clear c12
          (first | rw [c12b0] | (simp only [iU, iV]; rw [c12b0]) | skip)
          have H' := iC.mk H
          clear H
          go_wp2
          go_meet
          case rel => exact ⟨_, (decide (x8_1 < 30)), (by first | rfl | (simp; done) | (simp [*]; done)), H', ⟨by have := HK1.out; first | omega | exact Nat.le_refl _⟩, ⟨by (with_reducible repeat (first | apply Kd.R_alloc | apply Kd.R_drewN | apply Kd.R_drew)); exact HO_137001.out⟩, ⟨bk_ BK131.out⟩, ⟨bk_ BK136.out⟩, ⟨by repeat (first | (with_reducible first | exact HB.out | apply iF | apply iD | apply iG | refine iE ?_ GE131.out | refine iE ?_ GE136.out) | exact HB.out)⟩⟩
        · rw [if_neg c12] at H
          have c12b0 : decide (x8_1 < (l2.length : Int)) = false := decide_eq_false c12
          clear c12
          (first | rw [c12b0] | (simp only [iU, iV]; rw [c12b0]) | skip)
          have H' := iC.mk H
          clear H
          go_wp2
          go_meet
          case rel => exact ⟨_, (false), (by first | rfl | (simp; done) | (simp [*]; done)), H', ⟨by have := HK1.out; first | omega | exact Nat.le_refl _⟩, ⟨by (with_reducible repeat (first | apply Kd.R_alloc | apply Kd.R_drewN | apply Kd.R_drew)); exact HO_137001.out⟩, ⟨bk_ BK131.out⟩, ⟨bk_ BK136.out⟩, ⟨by repeat (first | (with_reducible first | exact HB.out | apply iF | apply iD | apply iG | refine iE ?_ GE131.out | refine iE ?_ GE136.out) | exact HB.out)⟩⟩
      case rest =>
        clear HC11
        try clear c1
        try clear c2
        try clear p2
        try clear c4
        try clear c8
        try clear c12
        try clear c12b0
        try clear hcz9_0
        try clear hcz9_1
        try clear hfz9_0
        try clear hfz9_1
        try clear p2
        obtain ⟨kq, x21_10, rfl, HA, HJ10, HO_137001, BK131, BK136, HB⟩ := hcut
        cases kq with
        | zero => exact absurd HA.out (by simp [stratumlaw12_Of.j1])
        | succ kj10 =>
          have H := HA.out
          clear HA
          simp only [stratumlaw12_Of.j1] at H
          by_cases c13 : x21_10 = true
          · subst c13
            have H1 : (if 0 ≤ x8_1 then (if x8_1 < (l2.length : Int) then (if a0 = 0 then (none) else (if (wrap64 (a0 - (Int.tmod (wrap64 ((iQ l2 x8_1).f0)) a0))) = 0 then (none) else (if a1 = 0 then (none) else ((stratumref12_Split.f kj10 x137000_1 x137001_1 a0 a1 (Int.tmod (wrap64 ((iQ l2 x8_1).f0)) a0) (wrap64 ((wrap64 ((Int.tmod (wrap64 ((iQ l2 x8_1).f0)) a0) + 1)) + (Int.tmod (wrap64 ((iQ l2 x8_1).f1)) (wrap64 (a0 - (Int.tmod (wrap64 ((iQ l2 x8_1).f0)) a0)))))) (Int.tmod (wrap64 ((iQ l2 x8_1).f2)) a1)).bind fun bt140 => (if bt140.2.2 = 0 then (stratumlaw12_Of.l0 kj10 a0 a1 l2 (wrap64 (x8_1 + 1)) bt140.1 bt140.2.1) else (stratumlaw12_Of.l0 kj10 a0 a1 l2 (wrap64 (x8_1 + 1)) x137000_1 x137001_1)))))) else (none)) else (none)) = some (r1, r2) := by rw [if_pos rfl] at H; exact H
            clear H
            have H := H1
            clear H1
            by_cases c14 : 0 ≤ x8_1
            · rw [if_pos c14] at H
              have c14b0 : decide (0 ≤ x8_1) = true := decide_eq_true c14
              clear c14
              by_cases c15 : x8_1 < (l2.length : Int)
              · rw [if_pos c15] at H
                have c15b0 : decide (x8_1 < (l2.length : Int)) = true := decide_eq_true c15
                clear c15
                by_cases c16 : a0 = 0
                · rw [if_pos c16] at H
                  exact absurd H (by simp)
                · rw [if_neg c16] at H
                  have c16b0 : (a0 == 0) = false := beq_eq_false_iff_ne.mpr c16
                  have c16b1 : (a0 != 0) = true := bne_iff_ne.mpr c16
                  by_cases c17 : (wrap64 (a0 - (Int.tmod (wrap64 ((iQ l2 x8_1).f0)) a0))) = 0
                  · rw [if_pos c17] at H
                    exact absurd H (by simp)
                  · rw [if_neg c17] at H
                    have c17b0 : ((wrap64 (a0 - (Int.tmod (wrap64 ((iQ l2 x8_1).f0)) a0))) == 0) = false := beq_eq_false_iff_ne.mpr c17
                    have c17b1 : ((wrap64 (a0 - (Int.tmod (wrap64 ((iQ l2 x8_1).f0)) a0))) != 0) = true := bne_iff_ne.mpr c17
                    by_cases c18 : a1 = 0
                    · rw [if_pos c18] at H
                      exact absurd H (by simp)
                    · rw [if_neg c18] at H
                      have c18b0 : (a1 == 0) = false := beq_eq_false_iff_ne.mpr c18
                      have c18b1 : (a1 != 0) = true := bne_iff_ne.mpr c18
                      replace H := Option.bind_eq_some_iff.mp H
                      obtain ⟨⟨t140, t141, t144⟩, A190, H⟩ := H
                      replace H : (if t144 = 0 then (stratumlaw12_Of.l0 kj10 a0 a1 l2 (wrap64 (x8_1 + 1)) t140 t141) else (stratumlaw12_Of.l0 kj10 a0 a1 l2 (wrap64 (x8_1 + 1)) x137000_1 x137001_1)) = some (r1, r2) := H
                      have A19 := iC.mk A190
                      clear A190
                      by_cases c20 : t144 = 0
                      · rw [if_pos c20] at H
                        have c20b0 : (t144 == 0) = true := beq_iff_eq.mpr c20
                        have c20b1 : (t144 != 0) = false := bne_eq_false_iff_eq.mpr c20
                        clear c20
                        have H' := iC.mk H
                        clear H
                        have p137 : 0 ≤ (x8_1 : Int) := of_decide_eq_true asm_
                        have q137 : x8_1 < (l2.length : Int) := of_decide_eq_true asm_
                        obtain ⟨ad137, e137, hx137_0, hx137_1, hx137_2⟩ := oJ HR2.out x8_1 p137 q137
                        cases e137
                        replace hx137_0 := (HB.out.cell (World.block_lt_of_cell? w _ hx137_0)).trans hx137_0
                        replace hx137_1 := (HB.out.cell (World.block_lt_of_cell? w _ hx137_1)).trans hx137_1
                        replace hx137_2 := (HB.out.cell (World.block_lt_of_cell? w _ hx137_2)).trans hx137_2
                        replace p137 := eq_true p137
                        replace q137 := eq_true q137
                        have p138 : 0 ≤ (x8_1 : Int) := of_decide_eq_true asm_
                        have q138 : x8_1 < (l2.length : Int) := of_decide_eq_true asm_
                        obtain ⟨ad138, e138, hx138_0, hx138_1, hx138_2⟩ := oJ HR2.out x8_1 p138 q138
                        obtain rfl : ad137 = ad138 := (by injection e138)
                        replace hx138_0 := (HB.out.cell (World.block_lt_of_cell? w _ hx138_0)).trans hx138_0
                        replace hx138_1 := (HB.out.cell (World.block_lt_of_cell? w _ hx138_1)).trans hx138_1
                        replace hx138_2 := (HB.out.cell (World.block_lt_of_cell? w _ hx138_2)).trans hx138_2
                        replace p138 := eq_true p138
                        replace q138 := eq_true q138
                        obtain ⟨Ao21, co21, eo21⟩ := Kd.R_slice HO_137001.out
                        subst eo21
                        try go_wp2
                        have n0_ := iC.mk (Kd.R_drew HO_137001.out)
                        have n1_ := iC.mk (iK BK131.out)
                        have n2_ := iC.mk (iK BK136.out)
                        have n3_ := iC.mk (iG HB.out)
                        clear HO_137001
                        clear BK131
                        clear BK136
                        clear HB
                        have HO_137001 := n0_
                        have BK131 := n1_
                        have BK136 := n2_
                        have HB := n3_
                        clear n0_ n1_ n2_ n3_
                        have p139 : 0 ≤ (x8_1 : Int) := of_decide_eq_true asm_
                        have q139 : x8_1 < (l2.length : Int) := of_decide_eq_true asm_
                        obtain ⟨ad139, e139, hx139_0, hx139_1, hx139_2⟩ := oJ HR2.out x8_1 p139 q139
                        have hw139_2 := hx139_2
                        have hw139_1 := hx139_1
                        have hw139_0 := hx139_0
                        obtain rfl : ad137 = ad139 := (by injection e139)
                        replace hx139_0 := (HB.out.cell (World.block_lt_of_cell? w _ hx139_0)).trans hx139_0
                        replace hx139_1 := (HB.out.cell (World.block_lt_of_cell? w _ hx139_1)).trans hx139_1
                        replace hx139_2 := (HB.out.cell (World.block_lt_of_cell? w _ hx139_2)).trans hx139_2
                        replace p139 := eq_true p139
                        replace q139 := eq_true q139
                        refine mQ (n := 20) (S := fun w' => w'.cell? ⟨gb136, 0, none⟩ = some (.int .u32 x137000_1) ∧ w'.cell? ⟨gb136, 1, none⟩ = some (.slice Ao21 x137001_1.length co21) ∧ w'.cell? (ad137.add ((x8_1).toNat * 3)) = some (.int .u16 ((iQ l2 x8_1).f0)) ∧ w'.cell? ⟨(ad137.add ((x8_1).toNat * 3)).block, (ad137.add ((x8_1).toNat * 3)).off + 1, none⟩ = some (.int .u16 ((iQ l2 x8_1).f1)) ∧ w'.cell? ⟨(ad137.add ((x8_1).toNat * 3)).block, (ad137.add ((x8_1).toNat * 3)).off + 2, none⟩ = some (.int .u8 ((iQ l2 x8_1).f2))) (ds := []) #[false, false, false, false, false, false, false, false, false, false, false, false, false, false, false, false, false, false, false, false] (by kernel_rfl) rfl rfl ⟨(iH BK136.out 0).trans rfl, (iH BK136.out 1).trans rfl, ((HB.out.cell (World.block_lt_of_cell? w _ hw139_0)).trans hw139_0), ((HB.out.cell (World.block_lt_of_cell? w _ hw139_1)).trans hw139_1), ((HB.out.cell (World.block_lt_of_cell? w _ hw139_2)).trans hw139_2)⟩ (fun hHeld => ?_); refine kJ stratumlaw12_Of.tab7 stratumlaw12_Of.bits7 (fun HT_ HW_ => ?_)
                        generalize wc.drew = w22 at HO_137001 BK131 BK136 HB hx139_0 hx139_1 hx139_2 hHeld ⊢
                        refine iZ (i := 1) (N := some 47) (v := ?_) (a' := ?_) #[false, true, false, false, false, false, false, false, false, false, false, false, false, false, false, false, false, false, false, false] rfl rfl (iT HT_.out (by kernel_rfl)) (fun _ _ _ h => h) (Or.inl ⟨by rfl, ?_⟩) ?_ ?_
                        rotate_left
                        · intro w'
                          go_simp
                          with_reducible rfl
                        rotate_left
                        · simp only [Act.put, List.setIfInBounds_toArray, List.set_cons_zero, List.set_cons_succ, iU, iV]
                          rfl
                        refine iZ (i := 2) (N := some 48) (v := ?_) (a' := ?_) #[false, true, true, false, false, false, false, false, false, false, false, false, false, false, false, false, false, false, false, false] rfl rfl (iT HT_.out (by kernel_rfl)) (fun _ _ _ h => h) (Or.inl ⟨by rfl, ?_⟩) ?_ ?_
                        rotate_left
                        · intro w'
                          go_simp
                          with_reducible rfl
                        rotate_left
                        · simp only [Act.put, List.setIfInBounds_toArray, List.set_cons_zero, List.set_cons_succ, iU, iV]
                          rfl
                        refine iZ (i := 3) (N := some 49) (v := ?_) (a' := ?_) #[false, true, true, true, false, false, false, false, false, false, false, false, false, false, false, false, false, false, false, false] rfl rfl (iT HT_.out (by kernel_rfl)) (fun _ _ _ h => h) (Or.inl ⟨by rfl, ?_⟩) ?_ ?_
                        rotate_left
                        · intro w'
                          go_simp
                          with_reducible rfl
                        rotate_left
                        · simp only [Act.put, List.setIfInBounds_toArray, List.set_cons_zero, List.set_cons_succ, iU, iV]
                          rfl
                        refine iZ (i := 4) (N := some 50) (v := ?_) (a' := ?_) #[false, true, true, true, true, false, false, false, false, false, false, false, false, false, false, false, false, false, false, false] rfl rfl (iT HT_.out (by kernel_rfl)) (fun _ _ _ h => h) (Or.inl ⟨by rfl, ?_⟩) ?_ ?_
                        rotate_left
                        · intro w'
                          go_simp
                          with_reducible rfl
                        rotate_left
                        · simp only [Act.put, List.setIfInBounds_toArray, List.set_cons_zero, List.set_cons_succ, iU, iV]
                          rfl
                        refine iZ (i := 5) (N := some 51) (v := ?_) (a' := ?_) #[false, true, true, true, true, true, false, false, false, false, false, false, false, false, false, false, false, false, false, false] rfl rfl (iT HT_.out (by kernel_rfl)) (fun _ _ _ h => h) (Or.inl ⟨by rfl, ?_⟩) ?_ ?_
                        rotate_left
                        · intro w'
                          go_simp
                          with_reducible rfl
                        rotate_left
                        · simp only [Act.put, List.setIfInBounds_toArray, List.set_cons_zero, List.set_cons_succ, iU, iV]
                          rfl
                        refine iZ (i := 6) (N := some 52) (v := ?_) (a' := ?_) #[false, true, true, true, true, true, true, false, false, false, false, false, false, false, false, false, false, false, false, false] rfl rfl (iT HT_.out (by kernel_rfl)) (fun _ _ _ h => h) (Or.inl ⟨by rfl, ?_⟩) ?_ ?_
                        rotate_left
                        · intro w'
                          go_simp
                          with_reducible rfl
                        rotate_left
                        · simp only [Act.put, List.setIfInBounds_toArray, List.set_cons_zero, List.set_cons_succ, iU, iV]
                          rfl
                        refine iZ (i := 7) (N := some 53) (v := ?_) (a' := ?_) #[false, true, true, true, true, true, true, true, false, false, false, false, false, false, false, false, false, false, false, false] rfl rfl (iT HT_.out (by kernel_rfl)) (fun _ _ _ h => h) (Or.inl ⟨by rfl, ?_⟩) ?_ ?_
                        rotate_left
                        · intro w'
                          go_simp
                          with_reducible rfl
                        rotate_left
                        · simp only [Act.put, List.setIfInBounds_toArray, List.set_cons_zero, List.set_cons_succ, iU, iV]
                          rfl
                        refine iZ (i := 8) (N := some 54) (v := ?_) (a' := ?_) #[false, true, true, true, true, true, true, true, true, false, false, false, false, false, false, false, false, false, false, false] rfl rfl (iT HT_.out (by kernel_rfl)) (fun _ _ _ h => h) (Or.inl ⟨by rfl, ?_⟩) ?_ ?_
                        rotate_left
                        · intro w'
                          go_simp
                          with_reducible rfl
                        rotate_left
                        · simp only [Act.put, List.setIfInBounds_toArray, List.set_cons_zero, List.set_cons_succ, iU, iV]
                          rfl
                        refine iZ (i := 11) (N := some 57) (v := ?_) (a' := ?_) #[false, true, true, true, true, true, true, true, true, false, false, true, false, false, false, false, false, false, false, false] rfl rfl (iT HT_.out (by kernel_rfl)) (fun _ _ _ h => h) (Or.inl ⟨by rfl, ?_⟩) ?_ ?_
                        rotate_left
                        · intro w'
                          go_simp
                          with_reducible rfl
                        rotate_left
                        · simp only [Act.put, List.setIfInBounds_toArray, List.set_cons_zero, List.set_cons_succ, iU, iV]
                          rfl
                        refine lI (i := 0) (N := some 46) (v := ?_) (a' := ?_) #[true, true, true, true, true, true, true, true, true, false, false, true, false, false, false, false, false, false, false, false] rfl rfl (jI HT_.out HW_.out (by kernel_rfl)) (fun _ _ _ h => h) (Or.inl ⟨by rfl, ?_⟩) hHeld ?_ ?_
                        rotate_left
                        · rintro w' ⟨s0, s1, s2, s3, s4⟩
                          go_simp
                          with_reducible rfl
                        rotate_left
                        · simp only [Act.put, List.setIfInBounds_toArray, List.set_cons_zero, List.set_cons_succ, iU, iV]
                          rfl
                        refine lI (i := 9) (N := some 55) (v := ?_) (a' := ?_) #[true, true, true, true, true, true, true, true, true, true, false, true, false, false, false, false, false, false, false, false] rfl rfl (jI HT_.out HW_.out (by kernel_rfl)) (fun _ _ _ h => h) (Or.inl ⟨by rfl, ?_⟩) hHeld ?_ ?_
                        rotate_left
                        · rintro w' ⟨s0, s1, s2, s3, s4⟩
                          go_simp
                          with_reducible rfl
                        rotate_left
                        · simp only [Act.put, List.setIfInBounds_toArray, List.set_cons_zero, List.set_cons_succ, iU, iV]
                          rfl
                        refine iZ (i := 10) (N := some 56) (v := ?_) (a' := ?_) #[true, true, true, true, true, true, true, true, true, true, true, true, false, false, false, false, false, false, false, false] rfl rfl (iT HT_.out (by kernel_rfl)) (fun _ _ _ h => h) (Or.inl ⟨by rfl, ?_⟩) ?_ ?_
                        rotate_left
                        · intro w'
                          go_simp
                          with_reducible rfl
                        rotate_left
                        · simp only [Act.put, List.setIfInBounds_toArray, List.set_cons_zero, List.set_cons_succ, iU, iV]
                          rfl
                        refine iZ (i := 12) (N := some 58) (v := ?_) (a' := ?_) #[true, true, true, true, true, true, true, true, true, true, true, true, true, false, false, false, false, false, false, false] rfl rfl (iT HT_.out (by kernel_rfl)) (fun _ _ _ h => h) (Or.inl ⟨by rfl, ?_⟩) ?_ ?_
                        rotate_left
                        · intro w'
                          go_simp
                          with_reducible rfl
                        rotate_left
                        · simp only [Act.put, List.setIfInBounds_toArray, List.set_cons_zero, List.set_cons_succ, iU, iV]
                          rfl
                        refine zV (σ := Value × Nat) 2 #[true, true, true, true, true, true, true, true, true, true, true, true, true, true, true, true, true, true, false, false] (fun s_ => [(59, .tuple #[.agg #[.int .u32 t140, s_.1], .int .i64 t144]), (11, .pointer (some ⟨s_.2, 0, none⟩)), (45, .tuple #[.agg #[.int .u32 t140, s_.1], .int .i64 t144]), (60, .agg #[.int .u32 t140, s_.1]), (61, .int .i64 t144)]) (fun s_ w' => (w'.cell? ⟨gb136, 0, none⟩ = some (.int .u32 x137000_1) ∧ w'.cell? ⟨gb136, 1, none⟩ = some (.slice Ao21 x137001_1.length co21) ∧ w'.cell? (ad137.add ((x8_1).toNat * 3)) = some (.int .u16 ((iQ l2 x8_1).f0)) ∧ w'.cell? ⟨(ad137.add ((x8_1).toNat * 3)).block, (ad137.add ((x8_1).toNat * 3)).off + 1, none⟩ = some (.int .u16 ((iQ l2 x8_1).f1)) ∧ w'.cell? ⟨(ad137.add ((x8_1).toNat * 3)).block, (ad137.add ((x8_1).toNat * 3)).off + 2, none⟩ = some (.int .u8 ((iQ l2 x8_1).f2))) ∧ (Kd.R k96 96 w' w.heap.size (fun k_ => some k_ ≠ (.slice Ao21 x137001_1.length co21 : Value).ownBlock) s_.1 t141) ∧ (Kd.R k96 96 w' w.heap.size (fun k_ => some k_ ≠ (s_.1 : Value).ownBlock) (.slice Ao21 x137001_1.length co21) x137001_1) ∧ (w'.heap[gb131]? = some (.cells #[.int .u32 0, .slice none 0 0] 42 (0, 0))) ∧ (w'.heap[gb136]? = some (.cells #[.int .u32 x137000_1, .slice Ao21 x137001_1.length co21] 42 (0, 0))) ∧ (w'.heap[s_.2]? = some (.cells #[.int .u32 0, .slice none 0 0] 42 (0, 0))) ∧ (w.heap.size ≤ s_.2) ∧ (w.heap.size ≤ s_.2) ∧ (gb131 ≠ s_.2) ∧ (s_.2 ≠ gb131) ∧ (gb136 ≠ s_.2) ∧ (s_.2 ≠ gb136) ∧ (Below w.heap.size w w')) ?_ ?_
                        rotate_left
                        · intro hCont
                          refine two_ (i := 13) (j := 17) (Ni := some 59) (Nj := some 11) #[true, true, true, true, true, true, true, true, true, true, true, true, true, true, false, false, false, false, false, false] #[true, true, true, true, true, true, true, true, true, true, true, true, true, false, false, false, false, true, false, false] rfl rfl rfl rfl (xZ HT_.out (by kernel_rfl)) (by decide) (by decide) (fun K hK => ?_) (fun K hK => ?_)
                          · skip
                            refine nY Try.func46 (by kernel_rfl) rfl #[.agg #[.int .u32 x137000_1, .slice Ao21 x137001_1.length co21], .int .i64 a0, .int .i64 a1, .int .i64 (Int.tmod (wrap64 ((iQ l2 x8_1).f0)) a0), .int .i64 (wrap64 ((wrap64 ((Int.tmod (wrap64 ((iQ l2 x8_1).f0)) a0) + 1)) + (Int.tmod (wrap64 ((iQ l2 x8_1).f1)) (wrap64 (a0 - (Int.tmod (wrap64 ((iQ l2 x8_1).f0)) a0)))))), .int .i64 (Int.tmod (wrap64 ((iQ l2 x8_1).f2)) a1)] (by rfl) rfl rfl (by (try simp only [List.map_toArray, List.map_cons, List.map_nil]); first | done | rfl | (simp only [List.length_drop, List.length_take]; rfl)) ?_
                            with_reducible refine (stratumref12_Split.calls kj10 x137000_1 _ _ x137001_1 a0 a1 (Int.tmod (wrap64 ((iQ l2 x8_1).f0)) a0) (wrap64 ((wrap64 ((Int.tmod (wrap64 ((iQ l2 x8_1).f0)) a0) + 1)) + (Int.tmod (wrap64 ((iQ l2 x8_1).f1)) (wrap64 (a0 - (Int.tmod (wrap64 ((iQ l2 x8_1).f0)) a0)))))) (Int.tmod (wrap64 ((iQ l2 x8_1).f2)) a1) t140 t141 t144 _ ?side1 ?side2 A19.out).mono ?_
                            (case side1 => repeat (first | exact (Kd.R_reads' HO_137001.out).2.2 | (with_reducible refine Kd.C_alloc ?_ _) | (with_reducible refine Kd.C_drewN ?_ _) | (with_reducible refine Kd.C_drew ?_)))
                            (case side2 => exact (Kd.R_reads' HO_137001.out).2.1)
                            rintro e w23 ⟨v142, rfl, ho0, hb⟩
                            refine ⟨_, rfl, ?_⟩
                            have n0_ := iC.mk (Kd.R_elder' (by (with_reducible repeat (first | apply Kd.R_alloc | apply Kd.R_drewN | apply Kd.R_drew)); exact HO_137001.out) (Kd.R_base ho0) hb)
                            have n1_ := iC.mk (Kd.R_lower (Kd.R_new' ho0 (Kd.R_lt (by (with_reducible repeat (first | apply Kd.R_alloc | apply Kd.R_drewN | apply Kd.R_drew)); exact HO_137001.out))) (iM (by repeat (first | (with_reducible first | exact HB.out | apply iF | apply iD | apply iG | refine iE ?_ GE131.out | refine iE ?_ GE136.out) | exact HB.out))))
                            have n2_ := iC.mk (iO (g := gb131) (o := .cells #[.int .u32 0, .slice none 0 0] 42 (0, 0)) (bk_ BK131.out) hb)
                            have n3_ := iC.mk (iO (g := gb136) (o := .cells #[.int .u32 x137000_1, .slice Ao21 x137001_1.length co21] 42 (0, 0)) (bk_ BK136.out) hb)
                            have n4_ := iC.mk (iL (by repeat (first | (with_reducible first | exact HB.out | apply iF | apply iD | apply iG | refine iE ?_ GE131.out | refine iE ?_ GE136.out) | exact HB.out)) hb)
                            clear HO_137001
                            clear BK131
                            clear BK136
                            clear HB
                            have HO_137001 := n0_
                            have HO143 := n1_
                            have BK131 := n2_
                            have BK136 := n3_
                            have HB := n4_
                            clear n0_ n1_ n2_ n3_ n4_
                            (try clear hb)
                            (try clear hb2)
                            (try clear hk)
                            (try clear hi)
                            (try clear ho0)
                            refine hK.out _ _ ⟨(iH BK136.out 0).trans rfl, (iH BK136.out 1).trans rfl, ((HB.out.cell (World.block_lt_of_cell? w _ hw139_0)).trans hw139_0), ((HB.out.cell (World.block_lt_of_cell? w _ hw139_1)).trans hw139_1), ((HB.out.cell (World.block_lt_of_cell? w _ hw139_2)).trans hw139_2)⟩ (fun hHeld => ?_)
                            clear hK K
                            refine kR (a' := ?_) ?_ ?_
                            rotate_left
                            · show Act.put _ (some 59) _ = _
                              simp only [Act.put, List.setIfInBounds_toArray, List.set_cons_zero, List.set_cons_succ, iU, iV]
                              rfl
                            refine iZ (i := 14) (N := some 45) (v := ?_) (a' := ?_) #[true, true, true, true, true, true, true, true, true, true, true, true, true, true, true, false, false, false, false, false] rfl rfl (iT HT_.out (by kernel_rfl)) (fun _ _ _ h => h) (Or.inl ⟨by rfl, ?_⟩) ?_ ?_
                            rotate_left
                            · intro w'
                              go_simp
                              with_reducible rfl
                            rotate_left
                            · simp only [Act.put, List.setIfInBounds_toArray, List.set_cons_zero, List.set_cons_succ, iU, iV]
                              rfl
                            refine iZ (i := 15) (N := some 60) (v := ?_) (a' := ?_) #[true, true, true, true, true, true, true, true, true, true, true, true, true, true, true, true, false, false, false, false] rfl rfl (iT HT_.out (by kernel_rfl)) (fun _ _ _ h => h) (Or.inl ⟨by rfl, ?_⟩) ?_ ?_
                            rotate_left
                            · intro w'
                              go_simp
                              with_reducible rfl
                            rotate_left
                            · simp only [Act.put, List.setIfInBounds_toArray, List.set_cons_zero, List.set_cons_succ, iU, iV]
                              rfl
                            refine iZ (i := 16) (N := some 61) (v := ?_) (a' := ?_) #[true, true, true, true, true, true, true, true, true, true, true, true, true, true, true, true, true, false, false, false] rfl rfl (iT HT_.out (by kernel_rfl)) (fun _ _ _ h => h) (Or.inl ⟨by rfl, ?_⟩) ?_ ?_
                            rotate_left
                            · intro w'
                              go_simp
                              with_reducible rfl
                            rotate_left
                            · simp only [Act.put, List.setIfInBounds_toArray, List.set_cons_zero, List.set_cons_succ, iU, iV]
                              rfl
                            refine one_ (i := 17) (N := some 11) #[true, true, true, true, true, true, true, true, true, true, true, true, true, true, true, true, true, true, false, false] rfl rfl (kD HT_.out (by kernel_rfl)) (by decide) (fun K hK => ?_)
                            refine mX ?hg (N := 11) ?hd (cs := #[.int .u32 0, .slice none 0 0]) (t := 42) ?hr ?_; (case hd => rfl); (case hg => rfl); (case hr => first | (go_simp; done) | (go_simp; rfl))
                            intro gb145 hg w24 hbox hb
                            have n0_ := iC.mk (Kd.R_below (by (with_reducible repeat (first | apply Kd.R_alloc | apply Kd.R_drewN | apply Kd.R_drew)); exact HO_137001.out) hb)
                            have n1_ := iC.mk (Kd.R_below (by (with_reducible repeat (first | apply Kd.R_alloc | apply Kd.R_drewN | apply Kd.R_drew)); exact HO143.out) hb)
                            have n2_ := iC.mk (iO (g := gb131) (o := .cells #[.int .u32 0, .slice none 0 0] 42 (0, 0)) (bk_ BK131.out) hb)
                            have n3_ := iC.mk (iO (g := gb136) (o := .cells #[.int .u32 x137000_1, .slice Ao21 x137001_1.length co21] 42 (0, 0)) (bk_ BK136.out) hb)
                            have n4_ := iC.mk (iL (by repeat (first | (with_reducible first | exact HB.out | apply iF | apply iD | apply iG | refine iE ?_ GE131.out | refine iE ?_ GE136.out) | exact HB.out)) hb)
                            have n5_ := iC.mk (hbox)
                            have n6_ := iC.mk ((by rw [hg]; exact (iM (by repeat (first | (with_reducible first | exact HB.out | apply iF | apply iD | apply iG | refine iE ?_ GE131.out | refine iE ?_ GE136.out) | exact HB.out))) : w.heap.size ≤ gb145))
                            have n7_ := iC.mk ((by rw [hg]; exact (iM (by repeat (first | (with_reducible first | exact HB.out | apply iF | apply iD | apply iG | refine iE ?_ GE131.out | refine iE ?_ GE136.out) | exact HB.out))) : w.heap.size ≤ gb145))
                            have n8_ := iC.mk ((by rw [hg]; exact Nat.ne_of_lt (jD (g := gb131) (o := .cells #[.int .u32 0, .slice none 0 0] 42 (0, 0)) (bk_ BK131.out)) : gb131 ≠ gb145))
                            have n9_ := iC.mk ((by rw [hg]; exact Nat.ne_of_gt (jD (g := gb131) (o := .cells #[.int .u32 0, .slice none 0 0] 42 (0, 0)) (bk_ BK131.out)) : gb145 ≠ gb131))
                            have n10_ := iC.mk ((by rw [hg]; exact Nat.ne_of_lt (jD (g := gb136) (o := .cells #[.int .u32 x137000_1, .slice Ao21 x137001_1.length co21] 42 (0, 0)) (bk_ BK136.out)) : gb136 ≠ gb145))
                            have n11_ := iC.mk ((by rw [hg]; exact Nat.ne_of_gt (jD (g := gb136) (o := .cells #[.int .u32 x137000_1, .slice Ao21 x137001_1.length co21] 42 (0, 0)) (bk_ BK136.out)) : gb145 ≠ gb136))
                            clear HO_137001
                            clear HO143
                            clear BK131
                            clear BK136
                            clear HB
                            have HO_137001 := n0_
                            have HO143 := n1_
                            have BK131 := n2_
                            have BK136 := n3_
                            have HB := n4_
                            have BK145 := n5_
                            have GW145 := n6_
                            have GE145 := n7_
                            have NB131_145 := n8_
                            have NB145_131 := n9_
                            have NB136_145 := n10_
                            have NB145_136 := n11_
                            clear n0_ n1_ n2_ n3_ n4_ n5_ n6_ n7_ n8_ n9_ n10_ n11_
                            clear hb hbox hg
                            refine hK.out _ _ ⟨(iH BK136.out 0).trans rfl, (iH BK136.out 1).trans rfl, ((HB.out.cell (World.block_lt_of_cell? w _ hw139_0)).trans hw139_0), ((HB.out.cell (World.block_lt_of_cell? w _ hw139_1)).trans hw139_1), ((HB.out.cell (World.block_lt_of_cell? w _ hw139_2)).trans hw139_2)⟩ (fun hHeld => ?_)
                            clear hK K
                            refine kR (a' := ?_) ?_ ?_
                            rotate_left
                            · show Act.put _ (some 11) _ = _
                              simp only [Act.put, List.setIfInBounds_toArray, List.set_cons_zero, List.set_cons_succ, iU, iV]
                              rfl
                            exact kR (by simp only [lZ, Act.put, List.setIfInBounds_toArray, List.set_cons_zero, List.set_cons_succ]) (hCont (v142, gb145) _ ⟨hHeld, (by (with_reducible repeat (first | apply Kd.R_alloc | apply Kd.R_drewN | apply Kd.R_drew)); exact Kd.R_mono HO143.out (fun _ hk => hk.2)), (by (with_reducible repeat (first | apply Kd.R_alloc | apply Kd.R_drewN | apply Kd.R_drew)); exact Kd.R_mono HO_137001.out (fun _ hk => hk.2)), (bk_ BK131.out), (bk_ BK136.out), (bk_ BK145.out), GW145.out, GE145.out, NB131_145.out, NB145_131.out, NB136_145.out, NB145_136.out, (by repeat (first | (with_reducible first | exact HB.out | apply iF | apply iD | apply iG | refine iE ?_ GE131.out | refine iE ?_ GE136.out | refine iE ?_ GE145.out) | exact HB.out))⟩)
                          · skip
                            refine mX ?hg (N := 11) ?hd (cs := #[.int .u32 0, .slice none 0 0]) (t := 42) ?hr ?_; (case hd => rfl); (case hg => rfl); (case hr => first | (go_simp; done) | (go_simp; rfl))
                            intro gb145 hg w23 hbox hb
                            have n0_ := iC.mk (Kd.R_below (by (with_reducible repeat (first | apply Kd.R_alloc | apply Kd.R_drewN | apply Kd.R_drew)); exact HO_137001.out) hb)
                            have n1_ := iC.mk (iO (g := gb131) (o := .cells #[.int .u32 0, .slice none 0 0] 42 (0, 0)) (bk_ BK131.out) hb)
                            have n2_ := iC.mk (iO (g := gb136) (o := .cells #[.int .u32 x137000_1, .slice Ao21 x137001_1.length co21] 42 (0, 0)) (bk_ BK136.out) hb)
                            have n3_ := iC.mk (iL (by repeat (first | (with_reducible first | exact HB.out | apply iF | apply iD | apply iG | refine iE ?_ GE131.out | refine iE ?_ GE136.out) | exact HB.out)) hb)
                            have n4_ := iC.mk (hbox)
                            have n5_ := iC.mk ((by rw [hg]; exact (iM (by repeat (first | (with_reducible first | exact HB.out | apply iF | apply iD | apply iG | refine iE ?_ GE131.out | refine iE ?_ GE136.out) | exact HB.out))) : w.heap.size ≤ gb145))
                            have n6_ := iC.mk ((by rw [hg]; exact (iM (by repeat (first | (with_reducible first | exact HB.out | apply iF | apply iD | apply iG | refine iE ?_ GE131.out | refine iE ?_ GE136.out) | exact HB.out))) : w.heap.size ≤ gb145))
                            have n7_ := iC.mk ((by rw [hg]; exact Nat.ne_of_lt (jD (g := gb131) (o := .cells #[.int .u32 0, .slice none 0 0] 42 (0, 0)) (bk_ BK131.out)) : gb131 ≠ gb145))
                            have n8_ := iC.mk ((by rw [hg]; exact Nat.ne_of_gt (jD (g := gb131) (o := .cells #[.int .u32 0, .slice none 0 0] 42 (0, 0)) (bk_ BK131.out)) : gb145 ≠ gb131))
                            have n9_ := iC.mk ((by rw [hg]; exact Nat.ne_of_lt (jD (g := gb136) (o := .cells #[.int .u32 x137000_1, .slice Ao21 x137001_1.length co21] 42 (0, 0)) (bk_ BK136.out)) : gb136 ≠ gb145))
                            have n10_ := iC.mk ((by rw [hg]; exact Nat.ne_of_gt (jD (g := gb136) (o := .cells #[.int .u32 x137000_1, .slice Ao21 x137001_1.length co21] 42 (0, 0)) (bk_ BK136.out)) : gb145 ≠ gb136))
                            clear HO_137001
                            clear BK131
                            clear BK136
                            clear HB
                            have HO_137001 := n0_
                            have BK131 := n1_
                            have BK136 := n2_
                            have HB := n3_
                            have BK145 := n4_
                            have GW145 := n5_
                            have GE145 := n6_
                            have NB131_145 := n7_
                            have NB145_131 := n8_
                            have NB136_145 := n9_
                            have NB145_136 := n10_
                            clear n0_ n1_ n2_ n3_ n4_ n5_ n6_ n7_ n8_ n9_ n10_
                            clear hb hbox hg
                            refine hK.out _ _ ⟨(iH BK136.out 0).trans rfl, (iH BK136.out 1).trans rfl, ((HB.out.cell (World.block_lt_of_cell? w _ hw139_0)).trans hw139_0), ((HB.out.cell (World.block_lt_of_cell? w _ hw139_1)).trans hw139_1), ((HB.out.cell (World.block_lt_of_cell? w _ hw139_2)).trans hw139_2)⟩ (fun hHeld => ?_)
                            clear hK K
                            refine kR (a' := ?_) ?_ ?_
                            rotate_left
                            · show Act.put _ (some 11) _ = _
                              simp only [Act.put, List.setIfInBounds_toArray, List.set_cons_zero, List.set_cons_succ, iU, iV]
                              rfl
                            refine one_ (i := 13) (N := some 59) #[true, true, true, true, true, true, true, true, true, true, true, true, true, true, false, false, false, true, false, false] rfl rfl (kD HT_.out (by kernel_rfl)) (by decide) (fun K hK => ?_)
                            refine nY Try.func46 (by kernel_rfl) rfl #[.agg #[.int .u32 x137000_1, .slice Ao21 x137001_1.length co21], .int .i64 a0, .int .i64 a1, .int .i64 (Int.tmod (wrap64 ((iQ l2 x8_1).f0)) a0), .int .i64 (wrap64 ((wrap64 ((Int.tmod (wrap64 ((iQ l2 x8_1).f0)) a0) + 1)) + (Int.tmod (wrap64 ((iQ l2 x8_1).f1)) (wrap64 (a0 - (Int.tmod (wrap64 ((iQ l2 x8_1).f0)) a0)))))), .int .i64 (Int.tmod (wrap64 ((iQ l2 x8_1).f2)) a1)] (by rfl) rfl rfl (by (try simp only [List.map_toArray, List.map_cons, List.map_nil]); first | done | rfl | (simp only [List.length_drop, List.length_take]; rfl)) ?_
                            with_reducible refine (stratumref12_Split.calls kj10 x137000_1 _ _ x137001_1 a0 a1 (Int.tmod (wrap64 ((iQ l2 x8_1).f0)) a0) (wrap64 ((wrap64 ((Int.tmod (wrap64 ((iQ l2 x8_1).f0)) a0) + 1)) + (Int.tmod (wrap64 ((iQ l2 x8_1).f1)) (wrap64 (a0 - (Int.tmod (wrap64 ((iQ l2 x8_1).f0)) a0)))))) (Int.tmod (wrap64 ((iQ l2 x8_1).f2)) a1) t140 t141 t144 _ ?side1 ?side2 A19.out).mono ?_
                            (case side1 => repeat (first | exact (Kd.R_reads' HO_137001.out).2.2 | (with_reducible refine Kd.C_alloc ?_ _) | (with_reducible refine Kd.C_drewN ?_ _) | (with_reducible refine Kd.C_drew ?_)))
                            (case side2 => exact (Kd.R_reads' HO_137001.out).2.1)
                            rintro e w24 ⟨v142, rfl, ho0, hb⟩
                            refine ⟨_, rfl, ?_⟩
                            have n0_ := iC.mk (Kd.R_elder' (by (with_reducible repeat (first | apply Kd.R_alloc | apply Kd.R_drewN | apply Kd.R_drew)); exact HO_137001.out) (Kd.R_base ho0) hb)
                            have n1_ := iC.mk (Kd.R_lower (Kd.R_new' ho0 (Kd.R_lt (by (with_reducible repeat (first | apply Kd.R_alloc | apply Kd.R_drewN | apply Kd.R_drew)); exact HO_137001.out))) (iM (by repeat (first | (with_reducible first | exact HB.out | apply iF | apply iD | apply iG | refine iE ?_ GE131.out | refine iE ?_ GE136.out | refine iE ?_ GE145.out) | exact HB.out))))
                            have n2_ := iC.mk (iO (g := gb131) (o := .cells #[.int .u32 0, .slice none 0 0] 42 (0, 0)) (bk_ BK131.out) hb)
                            have n3_ := iC.mk (iO (g := gb136) (o := .cells #[.int .u32 x137000_1, .slice Ao21 x137001_1.length co21] 42 (0, 0)) (bk_ BK136.out) hb)
                            have n4_ := iC.mk (iO (g := gb145) (o := .cells #[.int .u32 0, .slice none 0 0] 42 (0, 0)) (bk_ BK145.out) hb)
                            have n5_ := iC.mk (iL (by repeat (first | (with_reducible first | exact HB.out | apply iF | apply iD | apply iG | refine iE ?_ GE131.out | refine iE ?_ GE136.out | refine iE ?_ GE145.out) | exact HB.out)) hb)
                            clear HO_137001
                            clear BK131
                            clear BK136
                            clear BK145
                            clear HB
                            have HO_137001 := n0_
                            have HO143 := n1_
                            have BK131 := n2_
                            have BK136 := n3_
                            have BK145 := n4_
                            have HB := n5_
                            clear n0_ n1_ n2_ n3_ n4_ n5_
                            (try clear hb)
                            (try clear hb2)
                            (try clear hk)
                            (try clear hi)
                            (try clear ho0)
                            refine hK.out _ _ ⟨(iH BK136.out 0).trans rfl, (iH BK136.out 1).trans rfl, ((HB.out.cell (World.block_lt_of_cell? w _ hw139_0)).trans hw139_0), ((HB.out.cell (World.block_lt_of_cell? w _ hw139_1)).trans hw139_1), ((HB.out.cell (World.block_lt_of_cell? w _ hw139_2)).trans hw139_2)⟩ (fun hHeld => ?_)
                            clear hK K
                            refine kR (a' := ?_) ?_ ?_
                            rotate_left
                            · show Act.put _ (some 59) _ = _
                              simp only [Act.put, List.setIfInBounds_toArray, List.set_cons_zero, List.set_cons_succ, iU, iV]
                              rfl
                            refine iZ (i := 14) (N := some 45) (v := ?_) (a' := ?_) #[true, true, true, true, true, true, true, true, true, true, true, true, true, true, true, false, false, true, false, false] rfl rfl (iT HT_.out (by kernel_rfl)) (fun _ _ _ h => h) (Or.inl ⟨by rfl, ?_⟩) ?_ ?_
                            rotate_left
                            · intro w'
                              go_simp
                              with_reducible rfl
                            rotate_left
                            · simp only [Act.put, List.setIfInBounds_toArray, List.set_cons_zero, List.set_cons_succ, iU, iV]
                              rfl
                            refine iZ (i := 15) (N := some 60) (v := ?_) (a' := ?_) #[true, true, true, true, true, true, true, true, true, true, true, true, true, true, true, true, false, true, false, false] rfl rfl (iT HT_.out (by kernel_rfl)) (fun _ _ _ h => h) (Or.inl ⟨by rfl, ?_⟩) ?_ ?_
                            rotate_left
                            · intro w'
                              go_simp
                              with_reducible rfl
                            rotate_left
                            · simp only [Act.put, List.setIfInBounds_toArray, List.set_cons_zero, List.set_cons_succ, iU, iV]
                              rfl
                            refine iZ (i := 16) (N := some 61) (v := ?_) (a' := ?_) #[true, true, true, true, true, true, true, true, true, true, true, true, true, true, true, true, true, true, false, false] rfl rfl (iT HT_.out (by kernel_rfl)) (fun _ _ _ h => h) (Or.inl ⟨by rfl, ?_⟩) ?_ ?_
                            rotate_left
                            · intro w'
                              go_simp
                              with_reducible rfl
                            rotate_left
                            · simp only [Act.put, List.setIfInBounds_toArray, List.set_cons_zero, List.set_cons_succ, iU, iV]
                              rfl
                            exact kR (by simp only [lZ, Act.put, List.setIfInBounds_toArray, List.set_cons_zero, List.set_cons_succ]) (hCont (v142, gb145) _ ⟨hHeld, (by (with_reducible repeat (first | apply Kd.R_alloc | apply Kd.R_drewN | apply Kd.R_drew)); exact Kd.R_mono HO143.out (fun _ hk => hk.2)), (by (with_reducible repeat (first | apply Kd.R_alloc | apply Kd.R_drewN | apply Kd.R_drew)); exact Kd.R_mono HO_137001.out (fun _ hk => hk.2)), (bk_ BK131.out), (bk_ BK136.out), (bk_ BK145.out), GW145.out, GE145.out, NB131_145.out, NB145_131.out, NB136_145.out, NB145_136.out, (by repeat (first | (with_reducible first | exact HB.out | apply iF | apply iD | apply iG | refine iE ?_ GE131.out | refine iE ?_ GE136.out | refine iE ?_ GE145.out) | exact HB.out))⟩)
                        rintro ⟨v142, gb145⟩ w25 ⟨hS_, h0_, h1_, h2_, h3_, h4_, h5_, h6_, h7_, h8_, h9_, h10_, h11_⟩
                        have n0_ : iC (Kd.R k96 96 w25 w.heap.size (fun k_ => some k_ ≠ (.slice Ao21 x137001_1.length co21 : Value).ownBlock) v142 t141) := ⟨h0_⟩
                        have n1_ : iC (Kd.R k96 96 w25 w.heap.size (fun k_ => some k_ ≠ (v142 : Value).ownBlock) (.slice Ao21 x137001_1.length co21) x137001_1) := ⟨h1_⟩
                        have n2_ : iC (w25.heap[gb131]? = some (.cells #[.int .u32 0, .slice none 0 0] 42 (0, 0))) := ⟨h2_⟩
                        have n3_ : iC (w25.heap[gb136]? = some (.cells #[.int .u32 x137000_1, .slice Ao21 x137001_1.length co21] 42 (0, 0))) := ⟨h3_⟩
                        have n4_ : iC (w25.heap[gb145]? = some (.cells #[.int .u32 0, .slice none 0 0] 42 (0, 0))) := ⟨h4_⟩
                        have n5_ : iC (w.heap.size ≤ gb145) := ⟨h5_⟩
                        have n6_ : iC (w.heap.size ≤ gb145) := ⟨h6_⟩
                        have n7_ : iC (gb131 ≠ gb145) := ⟨h7_⟩
                        have n8_ : iC (gb145 ≠ gb131) := ⟨h8_⟩
                        have n9_ : iC (gb136 ≠ gb145) := ⟨h9_⟩
                        have n10_ : iC (gb145 ≠ gb136) := ⟨h10_⟩
                        have n11_ : iC (Below w.heap.size w w25) := ⟨h11_⟩
                        clear HO_137001
                        clear BK131
                        clear BK136
                        clear HB
                        clear h0_ h1_ h2_ h3_ h4_ h5_ h6_ h7_ h8_ h9_ h10_ h11_
                        have HO143 := n0_
                        have HO_137001 := n1_
                        have BK131 := n2_
                        have BK136 := n3_
                        have BK145 := n4_
                        have GW145 := n5_
                        have GE145 := n6_
                        have NB131_145 := n7_
                        have NB145_131 := n8_
                        have NB136_145 := n9_
                        have NB145_136 := n10_
                        have HB := n11_
                        clear n0_ n1_ n2_ n3_ n4_ n5_ n6_ n7_ n8_ n9_ n10_ n11_
                        have hHeld : w25.cell? ⟨gb136, 0, none⟩ = some (.int .u32 x137000_1) ∧ w25.cell? ⟨gb136, 1, none⟩ = some (.slice Ao21 x137001_1.length co21) ∧ w25.cell? (ad137.add ((x8_1).toNat * 3)) = some (.int .u16 ((iQ l2 x8_1).f0)) ∧ w25.cell? ⟨(ad137.add ((x8_1).toNat * 3)).block, (ad137.add ((x8_1).toNat * 3)).off + 1, none⟩ = some (.int .u16 ((iQ l2 x8_1).f1)) ∧ w25.cell? ⟨(ad137.add ((x8_1).toNat * 3)).block, (ad137.add ((x8_1).toNat * 3)).off + 2, none⟩ = some (.int .u8 ((iQ l2 x8_1).f2)) := hS_
                        obtain ⟨Ao27, co27, eo27⟩ := Kd.R_slice HO143.out
                        (first | subst eo27 | (injection eo27 with f1_ f2_ f3_; have f4_ := f1_.symm; have f5_ := f3_.symm; clear f1_ f2_ f3_; subst f4_; subst f5_))
                        refine kR (a' := ?_) ?_ ?_
                        rotate_left
                        · simp only [lZ, Act.put, List.setIfInBounds_toArray, List.set_cons_zero, List.set_cons_succ]
                          rfl
                        refine one_ (i := 18) (N := none) #[true, true, true, true, true, true, true, true, true, true, true, true, true, true, true, true, true, true, true, false] rfl rfl (kD HT_.out (by kernel_rfl)) (by decide) (fun K hK => ?_)
                        have hs26 : w25.cell? ⟨gb145, 0, none⟩ = some (.int .u32 0) := (iH BK145.out 0).trans rfl
                        have hfs26 := iI BK145.out 0
                        have hns26_0 := NB131_145.out
                        have hns26_1 := NB136_145.out
                        have hms26_0 := NB145_131.out
                        have hms26_1 := NB145_136.out
                        have hs28 : w25.cell? ⟨gb145, 1, none⟩ = some (.slice none 0 0) := (iH BK145.out 1).trans rfl
                        have hfs28 := iI BK145.out 1
                        have hns28_0 := NB131_145.out
                        have hns28_1 := NB136_145.out
                        have hms28_0 := NB145_131.out
                        have hms28_1 := NB145_136.out
                        refine qL (w1 := ?_) (by rfl) rfl ?_ ?_
                        rotate_left
                        · go_simp
                          rfl
                        refine hK.out _ _ ⟨((cell_far (p := ⟨gb145, _, none⟩) NB136_145.out _).trans (((cell_far (p := ⟨gb145, _, none⟩) NB136_145.out _).trans (hHeld.1)))), ((cell_far (p := ⟨gb145, _, none⟩) NB136_145.out _).trans (((cell_far (p := ⟨gb145, _, none⟩) NB136_145.out _).trans (hHeld.2.1)))), ((cell_far (p := ⟨gb145, _, none⟩) (by first | exact Nat.ne_of_lt (Nat.lt_of_lt_of_le (by have := World.block_lt_of_cell? _ _ hw139_0; first | rwa [add_block] at this | exact this) GW145.out) | (rw [add_block]; exact Nat.ne_of_lt (Nat.lt_of_lt_of_le (by have := World.block_lt_of_cell? _ _ hw139_0; first | rwa [add_block] at this | exact this) GW145.out)) | (show (Addr.add _ _).block ≠ _; rw [add_block]; exact Nat.ne_of_lt (Nat.lt_of_lt_of_le (by have := World.block_lt_of_cell? _ _ hw139_0; first | rwa [add_block] at this | exact this) GW145.out)) | (dsimp only; exact Nat.ne_of_lt (Nat.lt_of_lt_of_le (by have := World.block_lt_of_cell? _ _ hw139_0; first | rwa [add_block] at this | exact this) GW145.out))) _).trans (((cell_far (p := ⟨gb145, _, none⟩) (by first | exact Nat.ne_of_lt (Nat.lt_of_lt_of_le (by have := World.block_lt_of_cell? _ _ hw139_0; first | rwa [add_block] at this | exact this) GW145.out) | (rw [add_block]; exact Nat.ne_of_lt (Nat.lt_of_lt_of_le (by have := World.block_lt_of_cell? _ _ hw139_0; first | rwa [add_block] at this | exact this) GW145.out)) | (show (Addr.add _ _).block ≠ _; rw [add_block]; exact Nat.ne_of_lt (Nat.lt_of_lt_of_le (by have := World.block_lt_of_cell? _ _ hw139_0; first | rwa [add_block] at this | exact this) GW145.out)) | (dsimp only; exact Nat.ne_of_lt (Nat.lt_of_lt_of_le (by have := World.block_lt_of_cell? _ _ hw139_0; first | rwa [add_block] at this | exact this) GW145.out))) _).trans (hHeld.2.2.1)))), ((cell_far (p := ⟨gb145, _, none⟩) (by first | exact Nat.ne_of_lt (Nat.lt_of_lt_of_le (by have := World.block_lt_of_cell? _ _ hw139_1; first | rwa [add_block] at this | exact this) GW145.out) | (rw [add_block]; exact Nat.ne_of_lt (Nat.lt_of_lt_of_le (by have := World.block_lt_of_cell? _ _ hw139_1; first | rwa [add_block] at this | exact this) GW145.out)) | (show (Addr.add _ _).block ≠ _; rw [add_block]; exact Nat.ne_of_lt (Nat.lt_of_lt_of_le (by have := World.block_lt_of_cell? _ _ hw139_1; first | rwa [add_block] at this | exact this) GW145.out)) | (dsimp only; exact Nat.ne_of_lt (Nat.lt_of_lt_of_le (by have := World.block_lt_of_cell? _ _ hw139_1; first | rwa [add_block] at this | exact this) GW145.out))) _).trans (((cell_far (p := ⟨gb145, _, none⟩) (by first | exact Nat.ne_of_lt (Nat.lt_of_lt_of_le (by have := World.block_lt_of_cell? _ _ hw139_1; first | rwa [add_block] at this | exact this) GW145.out) | (rw [add_block]; exact Nat.ne_of_lt (Nat.lt_of_lt_of_le (by have := World.block_lt_of_cell? _ _ hw139_1; first | rwa [add_block] at this | exact this) GW145.out)) | (show (Addr.add _ _).block ≠ _; rw [add_block]; exact Nat.ne_of_lt (Nat.lt_of_lt_of_le (by have := World.block_lt_of_cell? _ _ hw139_1; first | rwa [add_block] at this | exact this) GW145.out)) | (dsimp only; exact Nat.ne_of_lt (Nat.lt_of_lt_of_le (by have := World.block_lt_of_cell? _ _ hw139_1; first | rwa [add_block] at this | exact this) GW145.out))) _).trans (hHeld.2.2.2.1)))), ((cell_far (p := ⟨gb145, _, none⟩) (by first | exact Nat.ne_of_lt (Nat.lt_of_lt_of_le (by have := World.block_lt_of_cell? _ _ hw139_2; first | rwa [add_block] at this | exact this) GW145.out) | (rw [add_block]; exact Nat.ne_of_lt (Nat.lt_of_lt_of_le (by have := World.block_lt_of_cell? _ _ hw139_2; first | rwa [add_block] at this | exact this) GW145.out)) | (show (Addr.add _ _).block ≠ _; rw [add_block]; exact Nat.ne_of_lt (Nat.lt_of_lt_of_le (by have := World.block_lt_of_cell? _ _ hw139_2; first | rwa [add_block] at this | exact this) GW145.out)) | (dsimp only; exact Nat.ne_of_lt (Nat.lt_of_lt_of_le (by have := World.block_lt_of_cell? _ _ hw139_2; first | rwa [add_block] at this | exact this) GW145.out))) _).trans (((cell_far (p := ⟨gb145, _, none⟩) (by first | exact Nat.ne_of_lt (Nat.lt_of_lt_of_le (by have := World.block_lt_of_cell? _ _ hw139_2; first | rwa [add_block] at this | exact this) GW145.out) | (rw [add_block]; exact Nat.ne_of_lt (Nat.lt_of_lt_of_le (by have := World.block_lt_of_cell? _ _ hw139_2; first | rwa [add_block] at this | exact this) GW145.out)) | (show (Addr.add _ _).block ≠ _; rw [add_block]; exact Nat.ne_of_lt (Nat.lt_of_lt_of_le (by have := World.block_lt_of_cell? _ _ hw139_2; first | rwa [add_block] at this | exact this) GW145.out)) | (dsimp only; exact Nat.ne_of_lt (Nat.lt_of_lt_of_le (by have := World.block_lt_of_cell? _ _ hw139_2; first | rwa [add_block] at this | exact this) GW145.out))) _).trans (hHeld.2.2.2.2))))⟩ (fun hHeld => ?_)
                        clear hK K
                        refine iZ (i := 19) (N := some 12) (v := ?_) (a' := ?_) #[true, true, true, true, true, true, true, true, true, true, true, true, true, true, true, true, true, true, true, true] rfl rfl (iT HT_.out (by kernel_rfl)) (fun _ _ _ h => h) (Or.inl ⟨by rfl, ?_⟩) ?_ ?_
                        rotate_left
                        · intro w'
                          go_simp
                          with_reducible rfl
                        rotate_left
                        · simp only [Act.put, List.setIfInBounds_toArray, List.set_cons_zero, List.set_cons_succ, iU, iV]
                          rfl
                        refine qH (lH HT_.out (by kernel_rfl)) ?_
                        have hnb29 := NB145_131.out
                        have hnc29 := NB131_145.out
                        have hnb30 := NB145_136.out
                        have hnc30 := NB136_145.out
                        have hcz31_0 : w25.cell? ⟨gb145, 0, none⟩ = some (.int .u32 0) := (iH BK145.out 0).trans rfl
                        have hcz31_1 : w25.cell? ⟨gb145, 1, none⟩ = some (.slice none 0 0) := (iH BK145.out 1).trans rfl
                        have hfz31_0 := iI BK145.out 0
                        have hfz31_1 := iI BK145.out 1
                        have hnb32 := NB136_131.out
                        have hnc32 := NB131_136.out
                        have hcz33_0 : w25.cell? ⟨gb136, 0, none⟩ = some (.int .u32 x137000_1) := (iH BK136.out 0).trans rfl
                        have hcz33_1 : w25.cell? ⟨gb136, 1, none⟩ = some (.slice Ao21 x137001_1.length co21) := (iH BK136.out 1).trans rfl
                        have hfz33_0 := iI BK136.out 0
                        have hfz33_1 := iI BK136.out 1
                        try go_wp2
                        go_roundg kj10
                        case measure => have := HK1.out; have := HJ10.out; omega
                        case rel => exact ⟨(wrap64 (x8_1 + 1)), (t140), (t141), (.slice Ao27 t141.length co27), (by first | rfl | (simp; done) | (simp [*]; done)), H', ⟨by have := HK1.out; have := HJ10.out; omega⟩, ⟨by (with_reducible repeat (first | apply Kd.R_alloc | apply Kd.R_drewN | apply Kd.R_drew)); exact Kd.R_mono (Kd.R_far (p := ⟨gb136, 1, none⟩) (Kd.R_far (p := ⟨gb136, 0, none⟩) (Kd.R_far (p := ⟨gb145, 1, none⟩) (Kd.R_far (p := ⟨gb145, 0, none⟩) (Kd.R_types (Kd.R_types HO143.out BK145.out (by decide)) BK136.out (by decide)) (fun _ hk => hk.1.2) (.int .u32 t140)) (fun _ hk => hk.1.2) (.slice Ao27 t141.length co27)) (fun _ hk => hk.2) (.int .u32 t140)) (fun _ hk => hk.2) (.slice Ao27 t141.length co27)) (fun _ hk => trivial)⟩, ⟨by (with_reducible repeat (first | refine iJ ?_ _ | refine iK ?_ | refine blk_alloc ?_ _)); refine jE ?_ NB131_136.out _; (with_reducible repeat (first | refine iJ ?_ _ | refine iK ?_ | refine blk_alloc ?_ _)); refine jE ?_ NB131_136.out _; (with_reducible repeat (first | refine iJ ?_ _ | refine iK ?_ | refine blk_alloc ?_ _)); refine jE ?_ NB131_145.out _; (with_reducible repeat (first | refine iJ ?_ _ | refine iK ?_ | refine blk_alloc ?_ _)); refine jE ?_ NB131_145.out _; (with_reducible repeat (first | refine iJ ?_ _ | refine iK ?_ | refine blk_alloc ?_ _)); exact BK131.out⟩, ⟨by (with_reducible repeat (first | refine iJ ?_ _ | refine iK ?_ | refine blk_alloc ?_ _)); refine jA (cs := #[.int .u32 t140, .slice Ao21 x137001_1.length co21]) ?_ 1 _ rfl; (with_reducible repeat (first | refine iJ ?_ _ | refine iK ?_ | refine blk_alloc ?_ _)); refine jA (cs := #[.int .u32 x137000_1, .slice Ao21 x137001_1.length co21]) ?_ 0 _ rfl; (with_reducible repeat (first | refine iJ ?_ _ | refine iK ?_ | refine blk_alloc ?_ _)); refine jE ?_ NB136_145.out _; (with_reducible repeat (first | refine iJ ?_ _ | refine iK ?_ | refine blk_alloc ?_ _)); refine jE ?_ NB136_145.out _; (with_reducible repeat (first | refine iJ ?_ _ | refine iK ?_ | refine blk_alloc ?_ _)); exact BK136.out⟩, ⟨by repeat (first | (with_reducible first | exact HB.out | apply iF | apply iD | apply iG | refine iE ?_ GE131.out | refine iE ?_ GE136.out | refine iE ?_ GE145.out) | exact HB.out)⟩⟩
                      · rw [if_neg c20] at H
                        have c20b0 : (t144 == 0) = false := beq_eq_false_iff_ne.mpr c20
                        have c20b1 : (t144 != 0) = true := bne_iff_ne.mpr c20
                        have H' := iC.mk H
                        clear H
                        have p137 : 0 ≤ (x8_1 : Int) := of_decide_eq_true asm_
                        have q137 : x8_1 < (l2.length : Int) := of_decide_eq_true asm_
                        obtain ⟨ad137, e137, hx137_0, hx137_1, hx137_2⟩ := oJ HR2.out x8_1 p137 q137
                        cases e137
                        replace hx137_0 := (HB.out.cell (World.block_lt_of_cell? w _ hx137_0)).trans hx137_0
                        replace hx137_1 := (HB.out.cell (World.block_lt_of_cell? w _ hx137_1)).trans hx137_1
                        replace hx137_2 := (HB.out.cell (World.block_lt_of_cell? w _ hx137_2)).trans hx137_2
                        replace p137 := eq_true p137
                        replace q137 := eq_true q137
                        have p138 : 0 ≤ (x8_1 : Int) := of_decide_eq_true asm_
                        have q138 : x8_1 < (l2.length : Int) := of_decide_eq_true asm_
                        obtain ⟨ad138, e138, hx138_0, hx138_1, hx138_2⟩ := oJ HR2.out x8_1 p138 q138
                        obtain rfl : ad137 = ad138 := (by injection e138)
                        replace hx138_0 := (HB.out.cell (World.block_lt_of_cell? w _ hx138_0)).trans hx138_0
                        replace hx138_1 := (HB.out.cell (World.block_lt_of_cell? w _ hx138_1)).trans hx138_1
                        replace hx138_2 := (HB.out.cell (World.block_lt_of_cell? w _ hx138_2)).trans hx138_2
                        replace p138 := eq_true p138
                        replace q138 := eq_true q138
                        obtain ⟨Ao34, co34, eo34⟩ := Kd.R_slice HO_137001.out
                        subst eo34
                        try go_wp2
                        have n0_ := iC.mk (Kd.R_drew HO_137001.out)
                        have n1_ := iC.mk (iK BK131.out)
                        have n2_ := iC.mk (iK BK136.out)
                        have n3_ := iC.mk (iG HB.out)
                        clear HO_137001
                        clear BK131
                        clear BK136
                        clear HB
                        have HO_137001 := n0_
                        have BK131 := n1_
                        have BK136 := n2_
                        have HB := n3_
                        clear n0_ n1_ n2_ n3_
                        have p139 : 0 ≤ (x8_1 : Int) := of_decide_eq_true asm_
                        have q139 : x8_1 < (l2.length : Int) := of_decide_eq_true asm_
                        obtain ⟨ad139, e139, hx139_0, hx139_1, hx139_2⟩ := oJ HR2.out x8_1 p139 q139
                        have hw139_2 := hx139_2
                        have hw139_1 := hx139_1
                        have hw139_0 := hx139_0
                        obtain rfl : ad137 = ad139 := (by injection e139)
                        replace hx139_0 := (HB.out.cell (World.block_lt_of_cell? w _ hx139_0)).trans hx139_0
                        replace hx139_1 := (HB.out.cell (World.block_lt_of_cell? w _ hx139_1)).trans hx139_1
                        replace hx139_2 := (HB.out.cell (World.block_lt_of_cell? w _ hx139_2)).trans hx139_2
                        replace p139 := eq_true p139
                        replace q139 := eq_true q139
                        refine mQ (n := 20) (S := fun w' => w'.cell? ⟨gb136, 0, none⟩ = some (.int .u32 x137000_1) ∧ w'.cell? ⟨gb136, 1, none⟩ = some (.slice Ao34 x137001_1.length co34) ∧ w'.cell? (ad137.add ((x8_1).toNat * 3)) = some (.int .u16 ((iQ l2 x8_1).f0)) ∧ w'.cell? ⟨(ad137.add ((x8_1).toNat * 3)).block, (ad137.add ((x8_1).toNat * 3)).off + 1, none⟩ = some (.int .u16 ((iQ l2 x8_1).f1)) ∧ w'.cell? ⟨(ad137.add ((x8_1).toNat * 3)).block, (ad137.add ((x8_1).toNat * 3)).off + 2, none⟩ = some (.int .u8 ((iQ l2 x8_1).f2))) (ds := []) #[false, false, false, false, false, false, false, false, false, false, false, false, false, false, false, false, false, false, false, false] (by kernel_rfl) rfl rfl ⟨(iH BK136.out 0).trans rfl, (iH BK136.out 1).trans rfl, ((HB.out.cell (World.block_lt_of_cell? w _ hw139_0)).trans hw139_0), ((HB.out.cell (World.block_lt_of_cell? w _ hw139_1)).trans hw139_1), ((HB.out.cell (World.block_lt_of_cell? w _ hw139_2)).trans hw139_2)⟩ (fun hHeld => ?_); refine kJ stratumlaw12_Of.tab7 stratumlaw12_Of.bits7 (fun HT_ HW_ => ?_)
                        generalize wc.drew = w35 at HO_137001 BK131 BK136 HB hx139_0 hx139_1 hx139_2 hHeld ⊢
                        refine iZ (i := 1) (N := some 47) (v := ?_) (a' := ?_) #[false, true, false, false, false, false, false, false, false, false, false, false, false, false, false, false, false, false, false, false] rfl rfl (iT HT_.out (by kernel_rfl)) (fun _ _ _ h => h) (Or.inl ⟨by rfl, ?_⟩) ?_ ?_
                        rotate_left
                        · intro w'
                          go_simp
                          with_reducible rfl
                        rotate_left
                        · simp only [Act.put, List.setIfInBounds_toArray, List.set_cons_zero, List.set_cons_succ, iU, iV]
                          rfl
                        refine iZ (i := 2) (N := some 48) (v := ?_) (a' := ?_) #[false, true, true, false, false, false, false, false, false, false, false, false, false, false, false, false, false, false, false, false] rfl rfl (iT HT_.out (by kernel_rfl)) (fun _ _ _ h => h) (Or.inl ⟨by rfl, ?_⟩) ?_ ?_
                        rotate_left
                        · intro w'
                          go_simp
                          with_reducible rfl
                        rotate_left
                        · simp only [Act.put, List.setIfInBounds_toArray, List.set_cons_zero, List.set_cons_succ, iU, iV]
                          rfl
                        refine iZ (i := 3) (N := some 49) (v := ?_) (a' := ?_) #[false, true, true, true, false, false, false, false, false, false, false, false, false, false, false, false, false, false, false, false] rfl rfl (iT HT_.out (by kernel_rfl)) (fun _ _ _ h => h) (Or.inl ⟨by rfl, ?_⟩) ?_ ?_
                        rotate_left
                        · intro w'
                          go_simp
                          with_reducible rfl
                        rotate_left
                        · simp only [Act.put, List.setIfInBounds_toArray, List.set_cons_zero, List.set_cons_succ, iU, iV]
                          rfl
                        refine iZ (i := 4) (N := some 50) (v := ?_) (a' := ?_) #[false, true, true, true, true, false, false, false, false, false, false, false, false, false, false, false, false, false, false, false] rfl rfl (iT HT_.out (by kernel_rfl)) (fun _ _ _ h => h) (Or.inl ⟨by rfl, ?_⟩) ?_ ?_
                        rotate_left
                        · intro w'
                          go_simp
                          with_reducible rfl
                        rotate_left
                        · simp only [Act.put, List.setIfInBounds_toArray, List.set_cons_zero, List.set_cons_succ, iU, iV]
                          rfl
                        refine iZ (i := 5) (N := some 51) (v := ?_) (a' := ?_) #[false, true, true, true, true, true, false, false, false, false, false, false, false, false, false, false, false, false, false, false] rfl rfl (iT HT_.out (by kernel_rfl)) (fun _ _ _ h => h) (Or.inl ⟨by rfl, ?_⟩) ?_ ?_
                        rotate_left
                        · intro w'
                          go_simp
                          with_reducible rfl
                        rotate_left
                        · simp only [Act.put, List.setIfInBounds_toArray, List.set_cons_zero, List.set_cons_succ, iU, iV]
                          rfl
                        refine iZ (i := 6) (N := some 52) (v := ?_) (a' := ?_) #[false, true, true, true, true, true, true, false, false, false, false, false, false, false, false, false, false, false, false, false] rfl rfl (iT HT_.out (by kernel_rfl)) (fun _ _ _ h => h) (Or.inl ⟨by rfl, ?_⟩) ?_ ?_
                        rotate_left
                        · intro w'
                          go_simp
                          with_reducible rfl
                        rotate_left
                        · simp only [Act.put, List.setIfInBounds_toArray, List.set_cons_zero, List.set_cons_succ, iU, iV]
                          rfl
                        refine iZ (i := 7) (N := some 53) (v := ?_) (a' := ?_) #[false, true, true, true, true, true, true, true, false, false, false, false, false, false, false, false, false, false, false, false] rfl rfl (iT HT_.out (by kernel_rfl)) (fun _ _ _ h => h) (Or.inl ⟨by rfl, ?_⟩) ?_ ?_
                        rotate_left
                        · intro w'
                          go_simp
                          with_reducible rfl
                        rotate_left
                        · simp only [Act.put, List.setIfInBounds_toArray, List.set_cons_zero, List.set_cons_succ, iU, iV]
                          rfl
                        refine iZ (i := 8) (N := some 54) (v := ?_) (a' := ?_) #[false, true, true, true, true, true, true, true, true, false, false, false, false, false, false, false, false, false, false, false] rfl rfl (iT HT_.out (by kernel_rfl)) (fun _ _ _ h => h) (Or.inl ⟨by rfl, ?_⟩) ?_ ?_
                        rotate_left
                        · intro w'
                          go_simp
                          with_reducible rfl
                        rotate_left
                        · simp only [Act.put, List.setIfInBounds_toArray, List.set_cons_zero, List.set_cons_succ, iU, iV]
                          rfl
                        refine iZ (i := 11) (N := some 57) (v := ?_) (a' := ?_) #[false, true, true, true, true, true, true, true, true, false, false, true, false, false, false, false, false, false, false, false] rfl rfl (iT HT_.out (by kernel_rfl)) (fun _ _ _ h => h) (Or.inl ⟨by rfl, ?_⟩) ?_ ?_
                        rotate_left
                        · intro w'
                          go_simp
                          with_reducible rfl
                        rotate_left
                        · simp only [Act.put, List.setIfInBounds_toArray, List.set_cons_zero, List.set_cons_succ, iU, iV]
                          rfl
                        refine lI (i := 0) (N := some 46) (v := ?_) (a' := ?_) #[true, true, true, true, true, true, true, true, true, false, false, true, false, false, false, false, false, false, false, false] rfl rfl (jI HT_.out HW_.out (by kernel_rfl)) (fun _ _ _ h => h) (Or.inl ⟨by rfl, ?_⟩) hHeld ?_ ?_
                        rotate_left
                        · rintro w' ⟨s0, s1, s2, s3, s4⟩
                          go_simp
                          with_reducible rfl
                        rotate_left
                        · simp only [Act.put, List.setIfInBounds_toArray, List.set_cons_zero, List.set_cons_succ, iU, iV]
                          rfl
                        refine lI (i := 9) (N := some 55) (v := ?_) (a' := ?_) #[true, true, true, true, true, true, true, true, true, true, false, true, false, false, false, false, false, false, false, false] rfl rfl (jI HT_.out HW_.out (by kernel_rfl)) (fun _ _ _ h => h) (Or.inl ⟨by rfl, ?_⟩) hHeld ?_ ?_
                        rotate_left
                        · rintro w' ⟨s0, s1, s2, s3, s4⟩
                          go_simp
                          with_reducible rfl
                        rotate_left
                        · simp only [Act.put, List.setIfInBounds_toArray, List.set_cons_zero, List.set_cons_succ, iU, iV]
                          rfl
                        refine iZ (i := 10) (N := some 56) (v := ?_) (a' := ?_) #[true, true, true, true, true, true, true, true, true, true, true, true, false, false, false, false, false, false, false, false] rfl rfl (iT HT_.out (by kernel_rfl)) (fun _ _ _ h => h) (Or.inl ⟨by rfl, ?_⟩) ?_ ?_
                        rotate_left
                        · intro w'
                          go_simp
                          with_reducible rfl
                        rotate_left
                        · simp only [Act.put, List.setIfInBounds_toArray, List.set_cons_zero, List.set_cons_succ, iU, iV]
                          rfl
                        refine iZ (i := 12) (N := some 58) (v := ?_) (a' := ?_) #[true, true, true, true, true, true, true, true, true, true, true, true, true, false, false, false, false, false, false, false] rfl rfl (iT HT_.out (by kernel_rfl)) (fun _ _ _ h => h) (Or.inl ⟨by rfl, ?_⟩) ?_ ?_
                        rotate_left
                        · intro w'
                          go_simp
                          with_reducible rfl
                        rotate_left
                        · simp only [Act.put, List.setIfInBounds_toArray, List.set_cons_zero, List.set_cons_succ, iU, iV]
                          rfl
                        refine zV (σ := Value × Nat) 2 #[true, true, true, true, true, true, true, true, true, true, true, true, true, true, true, true, true, true, false, false] (fun s_ => [(59, .tuple #[.agg #[.int .u32 t140, s_.1], .int .i64 t144]), (11, .pointer (some ⟨s_.2, 0, none⟩)), (45, .tuple #[.agg #[.int .u32 t140, s_.1], .int .i64 t144]), (60, .agg #[.int .u32 t140, s_.1]), (61, .int .i64 t144)]) (fun s_ w' => (w'.cell? ⟨gb136, 0, none⟩ = some (.int .u32 x137000_1) ∧ w'.cell? ⟨gb136, 1, none⟩ = some (.slice Ao34 x137001_1.length co34) ∧ w'.cell? (ad137.add ((x8_1).toNat * 3)) = some (.int .u16 ((iQ l2 x8_1).f0)) ∧ w'.cell? ⟨(ad137.add ((x8_1).toNat * 3)).block, (ad137.add ((x8_1).toNat * 3)).off + 1, none⟩ = some (.int .u16 ((iQ l2 x8_1).f1)) ∧ w'.cell? ⟨(ad137.add ((x8_1).toNat * 3)).block, (ad137.add ((x8_1).toNat * 3)).off + 2, none⟩ = some (.int .u8 ((iQ l2 x8_1).f2))) ∧ (Kd.R k96 96 w' w.heap.size (fun k_ => some k_ ≠ (.slice Ao34 x137001_1.length co34 : Value).ownBlock) s_.1 t141) ∧ (Kd.R k96 96 w' w.heap.size (fun k_ => some k_ ≠ (s_.1 : Value).ownBlock) (.slice Ao34 x137001_1.length co34) x137001_1) ∧ (w'.heap[gb131]? = some (.cells #[.int .u32 0, .slice none 0 0] 42 (0, 0))) ∧ (w'.heap[gb136]? = some (.cells #[.int .u32 x137000_1, .slice Ao34 x137001_1.length co34] 42 (0, 0))) ∧ (w'.heap[s_.2]? = some (.cells #[.int .u32 0, .slice none 0 0] 42 (0, 0))) ∧ (w.heap.size ≤ s_.2) ∧ (w.heap.size ≤ s_.2) ∧ (gb131 ≠ s_.2) ∧ (s_.2 ≠ gb131) ∧ (gb136 ≠ s_.2) ∧ (s_.2 ≠ gb136) ∧ (Below w.heap.size w w')) ?_ ?_
                        rotate_left
                        · intro hCont
                          refine two_ (i := 13) (j := 17) (Ni := some 59) (Nj := some 11) #[true, true, true, true, true, true, true, true, true, true, true, true, true, true, false, false, false, false, false, false] #[true, true, true, true, true, true, true, true, true, true, true, true, true, false, false, false, false, true, false, false] rfl rfl rfl rfl (xZ HT_.out (by kernel_rfl)) (by decide) (by decide) (fun K hK => ?_) (fun K hK => ?_)
                          · skip
                            refine nY Try.func46 (by kernel_rfl) rfl #[.agg #[.int .u32 x137000_1, .slice Ao34 x137001_1.length co34], .int .i64 a0, .int .i64 a1, .int .i64 (Int.tmod (wrap64 ((iQ l2 x8_1).f0)) a0), .int .i64 (wrap64 ((wrap64 ((Int.tmod (wrap64 ((iQ l2 x8_1).f0)) a0) + 1)) + (Int.tmod (wrap64 ((iQ l2 x8_1).f1)) (wrap64 (a0 - (Int.tmod (wrap64 ((iQ l2 x8_1).f0)) a0)))))), .int .i64 (Int.tmod (wrap64 ((iQ l2 x8_1).f2)) a1)] (by rfl) rfl rfl (by (try simp only [List.map_toArray, List.map_cons, List.map_nil]); first | done | rfl | (simp only [List.length_drop, List.length_take]; rfl)) ?_
                            with_reducible refine (stratumref12_Split.calls kj10 x137000_1 _ _ x137001_1 a0 a1 (Int.tmod (wrap64 ((iQ l2 x8_1).f0)) a0) (wrap64 ((wrap64 ((Int.tmod (wrap64 ((iQ l2 x8_1).f0)) a0) + 1)) + (Int.tmod (wrap64 ((iQ l2 x8_1).f1)) (wrap64 (a0 - (Int.tmod (wrap64 ((iQ l2 x8_1).f0)) a0)))))) (Int.tmod (wrap64 ((iQ l2 x8_1).f2)) a1) t140 t141 t144 _ ?side1 ?side2 A19.out).mono ?_
                            (case side1 => repeat (first | exact (Kd.R_reads' HO_137001.out).2.2 | (with_reducible refine Kd.C_alloc ?_ _) | (with_reducible refine Kd.C_drewN ?_ _) | (with_reducible refine Kd.C_drew ?_)))
                            (case side2 => exact (Kd.R_reads' HO_137001.out).2.1)
                            rintro e w36 ⟨v142, rfl, ho0, hb⟩
                            refine ⟨_, rfl, ?_⟩
                            have n0_ := iC.mk (Kd.R_elder' (by (with_reducible repeat (first | apply Kd.R_alloc | apply Kd.R_drewN | apply Kd.R_drew)); exact HO_137001.out) (Kd.R_base ho0) hb)
                            have n1_ := iC.mk (Kd.R_lower (Kd.R_new' ho0 (Kd.R_lt (by (with_reducible repeat (first | apply Kd.R_alloc | apply Kd.R_drewN | apply Kd.R_drew)); exact HO_137001.out))) (iM (by repeat (first | (with_reducible first | exact HB.out | apply iF | apply iD | apply iG | refine iE ?_ GE131.out | refine iE ?_ GE136.out) | exact HB.out))))
                            have n2_ := iC.mk (iO (g := gb131) (o := .cells #[.int .u32 0, .slice none 0 0] 42 (0, 0)) (bk_ BK131.out) hb)
                            have n3_ := iC.mk (iO (g := gb136) (o := .cells #[.int .u32 x137000_1, .slice Ao34 x137001_1.length co34] 42 (0, 0)) (bk_ BK136.out) hb)
                            have n4_ := iC.mk (iL (by repeat (first | (with_reducible first | exact HB.out | apply iF | apply iD | apply iG | refine iE ?_ GE131.out | refine iE ?_ GE136.out) | exact HB.out)) hb)
                            clear HO_137001
                            clear BK131
                            clear BK136
                            clear HB
                            have HO_137001 := n0_
                            have HO143 := n1_
                            have BK131 := n2_
                            have BK136 := n3_
                            have HB := n4_
                            clear n0_ n1_ n2_ n3_ n4_
                            (try clear hb)
                            (try clear hb2)
                            (try clear hk)
                            (try clear hi)
                            (try clear ho0)
                            refine hK.out _ _ ⟨(iH BK136.out 0).trans rfl, (iH BK136.out 1).trans rfl, ((HB.out.cell (World.block_lt_of_cell? w _ hw139_0)).trans hw139_0), ((HB.out.cell (World.block_lt_of_cell? w _ hw139_1)).trans hw139_1), ((HB.out.cell (World.block_lt_of_cell? w _ hw139_2)).trans hw139_2)⟩ (fun hHeld => ?_)
                            clear hK K
                            refine kR (a' := ?_) ?_ ?_
                            rotate_left
                            · show Act.put _ (some 59) _ = _
                              simp only [Act.put, List.setIfInBounds_toArray, List.set_cons_zero, List.set_cons_succ, iU, iV]
                              rfl
                            refine iZ (i := 14) (N := some 45) (v := ?_) (a' := ?_) #[true, true, true, true, true, true, true, true, true, true, true, true, true, true, true, false, false, false, false, false] rfl rfl (iT HT_.out (by kernel_rfl)) (fun _ _ _ h => h) (Or.inl ⟨by rfl, ?_⟩) ?_ ?_
                            rotate_left
                            · intro w'
                              go_simp
                              with_reducible rfl
                            rotate_left
                            · simp only [Act.put, List.setIfInBounds_toArray, List.set_cons_zero, List.set_cons_succ, iU, iV]
                              rfl
                            refine iZ (i := 15) (N := some 60) (v := ?_) (a' := ?_) #[true, true, true, true, true, true, true, true, true, true, true, true, true, true, true, true, false, false, false, false] rfl rfl (iT HT_.out (by kernel_rfl)) (fun _ _ _ h => h) (Or.inl ⟨by rfl, ?_⟩) ?_ ?_
                            rotate_left
                            · intro w'
                              go_simp
                              with_reducible rfl
                            rotate_left
                            · simp only [Act.put, List.setIfInBounds_toArray, List.set_cons_zero, List.set_cons_succ, iU, iV]
                              rfl
                            refine iZ (i := 16) (N := some 61) (v := ?_) (a' := ?_) #[true, true, true, true, true, true, true, true, true, true, true, true, true, true, true, true, true, false, false, false] rfl rfl (iT HT_.out (by kernel_rfl)) (fun _ _ _ h => h) (Or.inl ⟨by rfl, ?_⟩) ?_ ?_
                            rotate_left
                            · intro w'
                              go_simp
                              with_reducible rfl
                            rotate_left
                            · simp only [Act.put, List.setIfInBounds_toArray, List.set_cons_zero, List.set_cons_succ, iU, iV]
                              rfl
                            refine one_ (i := 17) (N := some 11) #[true, true, true, true, true, true, true, true, true, true, true, true, true, true, true, true, true, true, false, false] rfl rfl (kD HT_.out (by kernel_rfl)) (by decide) (fun K hK => ?_)
                            refine mX ?hg (N := 11) ?hd (cs := #[.int .u32 0, .slice none 0 0]) (t := 42) ?hr ?_; (case hd => rfl); (case hg => rfl); (case hr => first | (go_simp; done) | (go_simp; rfl))
                            intro gb145 hg w37 hbox hb
                            have n0_ := iC.mk (Kd.R_below (by (with_reducible repeat (first | apply Kd.R_alloc | apply Kd.R_drewN | apply Kd.R_drew)); exact HO_137001.out) hb)
                            have n1_ := iC.mk (Kd.R_below (by (with_reducible repeat (first | apply Kd.R_alloc | apply Kd.R_drewN | apply Kd.R_drew)); exact HO143.out) hb)
                            have n2_ := iC.mk (iO (g := gb131) (o := .cells #[.int .u32 0, .slice none 0 0] 42 (0, 0)) (bk_ BK131.out) hb)
                            have n3_ := iC.mk (iO (g := gb136) (o := .cells #[.int .u32 x137000_1, .slice Ao34 x137001_1.length co34] 42 (0, 0)) (bk_ BK136.out) hb)
                            have n4_ := iC.mk (iL (by repeat (first | (with_reducible first | exact HB.out | apply iF | apply iD | apply iG | refine iE ?_ GE131.out | refine iE ?_ GE136.out) | exact HB.out)) hb)
                            have n5_ := iC.mk (hbox)
                            have n6_ := iC.mk ((by rw [hg]; exact (iM (by repeat (first | (with_reducible first | exact HB.out | apply iF | apply iD | apply iG | refine iE ?_ GE131.out | refine iE ?_ GE136.out) | exact HB.out))) : w.heap.size ≤ gb145))
                            have n7_ := iC.mk ((by rw [hg]; exact (iM (by repeat (first | (with_reducible first | exact HB.out | apply iF | apply iD | apply iG | refine iE ?_ GE131.out | refine iE ?_ GE136.out) | exact HB.out))) : w.heap.size ≤ gb145))
                            have n8_ := iC.mk ((by rw [hg]; exact Nat.ne_of_lt (jD (g := gb131) (o := .cells #[.int .u32 0, .slice none 0 0] 42 (0, 0)) (bk_ BK131.out)) : gb131 ≠ gb145))
                            have n9_ := iC.mk ((by rw [hg]; exact Nat.ne_of_gt (jD (g := gb131) (o := .cells #[.int .u32 0, .slice none 0 0] 42 (0, 0)) (bk_ BK131.out)) : gb145 ≠ gb131))
                            have n10_ := iC.mk ((by rw [hg]; exact Nat.ne_of_lt (jD (g := gb136) (o := .cells #[.int .u32 x137000_1, .slice Ao34 x137001_1.length co34] 42 (0, 0)) (bk_ BK136.out)) : gb136 ≠ gb145))
                            have n11_ := iC.mk ((by rw [hg]; exact Nat.ne_of_gt (jD (g := gb136) (o := .cells #[.int .u32 x137000_1, .slice Ao34 x137001_1.length co34] 42 (0, 0)) (bk_ BK136.out)) : gb145 ≠ gb136))
                            clear HO_137001
                            clear HO143
                            clear BK131
                            clear BK136
                            clear HB
                            have HO_137001 := n0_
                            have HO143 := n1_
                            have BK131 := n2_
                            have BK136 := n3_
                            have HB := n4_
                            have BK145 := n5_
                            have GW145 := n6_
                            have GE145 := n7_
                            have NB131_145 := n8_
                            have NB145_131 := n9_
                            have NB136_145 := n10_
                            have NB145_136 := n11_
                            clear n0_ n1_ n2_ n3_ n4_ n5_ n6_ n7_ n8_ n9_ n10_ n11_
                            clear hb hbox hg
                            refine hK.out _ _ ⟨(iH BK136.out 0).trans rfl, (iH BK136.out 1).trans rfl, ((HB.out.cell (World.block_lt_of_cell? w _ hw139_0)).trans hw139_0), ((HB.out.cell (World.block_lt_of_cell? w _ hw139_1)).trans hw139_1), ((HB.out.cell (World.block_lt_of_cell? w _ hw139_2)).trans hw139_2)⟩ (fun hHeld => ?_)
                            clear hK K
                            refine kR (a' := ?_) ?_ ?_
                            rotate_left
                            · show Act.put _ (some 11) _ = _
                              simp only [Act.put, List.setIfInBounds_toArray, List.set_cons_zero, List.set_cons_succ, iU, iV]
                              rfl
                            exact kR (by simp only [lZ, Act.put, List.setIfInBounds_toArray, List.set_cons_zero, List.set_cons_succ]) (hCont (v142, gb145) _ ⟨hHeld, (by (with_reducible repeat (first | apply Kd.R_alloc | apply Kd.R_drewN | apply Kd.R_drew)); exact Kd.R_mono HO143.out (fun _ hk => hk.2)), (by (with_reducible repeat (first | apply Kd.R_alloc | apply Kd.R_drewN | apply Kd.R_drew)); exact Kd.R_mono HO_137001.out (fun _ hk => hk.2)), (bk_ BK131.out), (bk_ BK136.out), (bk_ BK145.out), GW145.out, GE145.out, NB131_145.out, NB145_131.out, NB136_145.out, NB145_136.out, (by repeat (first | (with_reducible first | exact HB.out | apply iF | apply iD | apply iG | refine iE ?_ GE131.out | refine iE ?_ GE136.out | refine iE ?_ GE145.out) | exact HB.out))⟩)
                          · skip
                            refine mX ?hg (N := 11) ?hd (cs := #[.int .u32 0, .slice none 0 0]) (t := 42) ?hr ?_; (case hd => rfl); (case hg => rfl); (case hr => first | (go_simp; done) | (go_simp; rfl))
                            intro gb145 hg w36 hbox hb
                            have n0_ := iC.mk (Kd.R_below (by (with_reducible repeat (first | apply Kd.R_alloc | apply Kd.R_drewN | apply Kd.R_drew)); exact HO_137001.out) hb)
                            have n1_ := iC.mk (iO (g := gb131) (o := .cells #[.int .u32 0, .slice none 0 0] 42 (0, 0)) (bk_ BK131.out) hb)
                            have n2_ := iC.mk (iO (g := gb136) (o := .cells #[.int .u32 x137000_1, .slice Ao34 x137001_1.length co34] 42 (0, 0)) (bk_ BK136.out) hb)
                            have n3_ := iC.mk (iL (by repeat (first | (with_reducible first | exact HB.out | apply iF | apply iD | apply iG | refine iE ?_ GE131.out | refine iE ?_ GE136.out) | exact HB.out)) hb)
                            have n4_ := iC.mk (hbox)
                            have n5_ := iC.mk ((by rw [hg]; exact (iM (by repeat (first | (with_reducible first | exact HB.out | apply iF | apply iD | apply iG | refine iE ?_ GE131.out | refine iE ?_ GE136.out) | exact HB.out))) : w.heap.size ≤ gb145))
                            have n6_ := iC.mk ((by rw [hg]; exact (iM (by repeat (first | (with_reducible first | exact HB.out | apply iF | apply iD | apply iG | refine iE ?_ GE131.out | refine iE ?_ GE136.out) | exact HB.out))) : w.heap.size ≤ gb145))
                            have n7_ := iC.mk ((by rw [hg]; exact Nat.ne_of_lt (jD (g := gb131) (o := .cells #[.int .u32 0, .slice none 0 0] 42 (0, 0)) (bk_ BK131.out)) : gb131 ≠ gb145))
                            have n8_ := iC.mk ((by rw [hg]; exact Nat.ne_of_gt (jD (g := gb131) (o := .cells #[.int .u32 0, .slice none 0 0] 42 (0, 0)) (bk_ BK131.out)) : gb145 ≠ gb131))
                            have n9_ := iC.mk ((by rw [hg]; exact Nat.ne_of_lt (jD (g := gb136) (o := .cells #[.int .u32 x137000_1, .slice Ao34 x137001_1.length co34] 42 (0, 0)) (bk_ BK136.out)) : gb136 ≠ gb145))
                            have n10_ := iC.mk ((by rw [hg]; exact Nat.ne_of_gt (jD (g := gb136) (o := .cells #[.int .u32 x137000_1, .slice Ao34 x137001_1.length co34] 42 (0, 0)) (bk_ BK136.out)) : gb145 ≠ gb136))
                            clear HO_137001
                            clear BK131
                            clear BK136
                            clear HB
                            have HO_137001 := n0_
                            have BK131 := n1_
                            have BK136 := n2_
                            have HB := n3_
                            have BK145 := n4_
                            have GW145 := n5_
                            have GE145 := n6_
                            have NB131_145 := n7_
                            have NB145_131 := n8_
                            have NB136_145 := n9_
                            have NB145_136 := n10_
                            clear n0_ n1_ n2_ n3_ n4_ n5_ n6_ n7_ n8_ n9_ n10_
                            clear hb hbox hg
                            refine hK.out _ _ ⟨(iH BK136.out 0).trans rfl, (iH BK136.out 1).trans rfl, ((HB.out.cell (World.block_lt_of_cell? w _ hw139_0)).trans hw139_0), ((HB.out.cell (World.block_lt_of_cell? w _ hw139_1)).trans hw139_1), ((HB.out.cell (World.block_lt_of_cell? w _ hw139_2)).trans hw139_2)⟩ (fun hHeld => ?_)
                            clear hK K
                            refine kR (a' := ?_) ?_ ?_
                            rotate_left
                            · show Act.put _ (some 11) _ = _
                              simp only [Act.put, List.setIfInBounds_toArray, List.set_cons_zero, List.set_cons_succ, iU, iV]
                              rfl
                            refine one_ (i := 13) (N := some 59) #[true, true, true, true, true, true, true, true, true, true, true, true, true, true, false, false, false, true, false, false] rfl rfl (kD HT_.out (by kernel_rfl)) (by decide) (fun K hK => ?_)
                            refine nY Try.func46 (by kernel_rfl) rfl #[.agg #[.int .u32 x137000_1, .slice Ao34 x137001_1.length co34], .int .i64 a0, .int .i64 a1, .int .i64 (Int.tmod (wrap64 ((iQ l2 x8_1).f0)) a0), .int .i64 (wrap64 ((wrap64 ((Int.tmod (wrap64 ((iQ l2 x8_1).f0)) a0) + 1)) + (Int.tmod (wrap64 ((iQ l2 x8_1).f1)) (wrap64 (a0 - (Int.tmod (wrap64 ((iQ l2 x8_1).f0)) a0)))))), .int .i64 (Int.tmod (wrap64 ((iQ l2 x8_1).f2)) a1)] (by rfl) rfl rfl (by (try simp only [List.map_toArray, List.map_cons, List.map_nil]); first | done | rfl | (simp only [List.length_drop, List.length_take]; rfl)) ?_
                            with_reducible refine (stratumref12_Split.calls kj10 x137000_1 _ _ x137001_1 a0 a1 (Int.tmod (wrap64 ((iQ l2 x8_1).f0)) a0) (wrap64 ((wrap64 ((Int.tmod (wrap64 ((iQ l2 x8_1).f0)) a0) + 1)) + (Int.tmod (wrap64 ((iQ l2 x8_1).f1)) (wrap64 (a0 - (Int.tmod (wrap64 ((iQ l2 x8_1).f0)) a0)))))) (Int.tmod (wrap64 ((iQ l2 x8_1).f2)) a1) t140 t141 t144 _ ?side1 ?side2 A19.out).mono ?_
                            (case side1 => repeat (first | exact (Kd.R_reads' HO_137001.out).2.2 | (with_reducible refine Kd.C_alloc ?_ _) | (with_reducible refine Kd.C_drewN ?_ _) | (with_reducible refine Kd.C_drew ?_)))
                            (case side2 => exact (Kd.R_reads' HO_137001.out).2.1)
                            rintro e w37 ⟨v142, rfl, ho0, hb⟩
                            refine ⟨_, rfl, ?_⟩
                            have n0_ := iC.mk (Kd.R_elder' (by (with_reducible repeat (first | apply Kd.R_alloc | apply Kd.R_drewN | apply Kd.R_drew)); exact HO_137001.out) (Kd.R_base ho0) hb)
                            have n1_ := iC.mk (Kd.R_lower (Kd.R_new' ho0 (Kd.R_lt (by (with_reducible repeat (first | apply Kd.R_alloc | apply Kd.R_drewN | apply Kd.R_drew)); exact HO_137001.out))) (iM (by repeat (first | (with_reducible first | exact HB.out | apply iF | apply iD | apply iG | refine iE ?_ GE131.out | refine iE ?_ GE136.out | refine iE ?_ GE145.out) | exact HB.out))))
                            have n2_ := iC.mk (iO (g := gb131) (o := .cells #[.int .u32 0, .slice none 0 0] 42 (0, 0)) (bk_ BK131.out) hb)
                            have n3_ := iC.mk (iO (g := gb136) (o := .cells #[.int .u32 x137000_1, .slice Ao34 x137001_1.length co34] 42 (0, 0)) (bk_ BK136.out) hb)
                            have n4_ := iC.mk (iO (g := gb145) (o := .cells #[.int .u32 0, .slice none 0 0] 42 (0, 0)) (bk_ BK145.out) hb)
                            have n5_ := iC.mk (iL (by repeat (first | (with_reducible first | exact HB.out | apply iF | apply iD | apply iG | refine iE ?_ GE131.out | refine iE ?_ GE136.out | refine iE ?_ GE145.out) | exact HB.out)) hb)
                            clear HO_137001
                            clear BK131
                            clear BK136
                            clear BK145
                            clear HB
                            have HO_137001 := n0_
                            have HO143 := n1_
                            have BK131 := n2_
                            have BK136 := n3_
                            have BK145 := n4_
                            have HB := n5_
                            clear n0_ n1_ n2_ n3_ n4_ n5_
                            (try clear hb)
                            (try clear hb2)
                            (try clear hk)
                            (try clear hi)
                            (try clear ho0)
                            refine hK.out _ _ ⟨(iH BK136.out 0).trans rfl, (iH BK136.out 1).trans rfl, ((HB.out.cell (World.block_lt_of_cell? w _ hw139_0)).trans hw139_0), ((HB.out.cell (World.block_lt_of_cell? w _ hw139_1)).trans hw139_1), ((HB.out.cell (World.block_lt_of_cell? w _ hw139_2)).trans hw139_2)⟩ (fun hHeld => ?_)
                            clear hK K
                            refine kR (a' := ?_) ?_ ?_
                            rotate_left
                            · show Act.put _ (some 59) _ = _
                              simp only [Act.put, List.setIfInBounds_toArray, List.set_cons_zero, List.set_cons_succ, iU, iV]
                              rfl
                            refine iZ (i := 14) (N := some 45) (v := ?_) (a' := ?_) #[true, true, true, true, true, true, true, true, true, true, true, true, true, true, true, false, false, true, false, false] rfl rfl (iT HT_.out (by kernel_rfl)) (fun _ _ _ h => h) (Or.inl ⟨by rfl, ?_⟩) ?_ ?_
                            rotate_left
                            · intro w'
                              go_simp
                              with_reducible rfl
                            rotate_left
                            · simp only [Act.put, List.setIfInBounds_toArray, List.set_cons_zero, List.set_cons_succ, iU, iV]
                              rfl
                            refine iZ (i := 15) (N := some 60) (v := ?_) (a' := ?_) #[true, true, true, true, true, true, true, true, true, true, true, true, true, true, true, true, false, true, false, false] rfl rfl (iT HT_.out (by kernel_rfl)) (fun _ _ _ h => h) (Or.inl ⟨by rfl, ?_⟩) ?_ ?_
                            rotate_left
                            · intro w'
                              go_simp
                              with_reducible rfl
                            rotate_left
                            · simp only [Act.put, List.setIfInBounds_toArray, List.set_cons_zero, List.set_cons_succ, iU, iV]
                              rfl
                            refine iZ (i := 16) (N := some 61) (v := ?_) (a' := ?_) #[true, true, true, true, true, true, true, true, true, true, true, true, true, true, true, true, true, true, false, false] rfl rfl (iT HT_.out (by kernel_rfl)) (fun _ _ _ h => h) (Or.inl ⟨by rfl, ?_⟩) ?_ ?_
                            rotate_left
                            · intro w'
                              go_simp
                              with_reducible rfl
                            rotate_left
                            · simp only [Act.put, List.setIfInBounds_toArray, List.set_cons_zero, List.set_cons_succ, iU, iV]
                              rfl
                            exact kR (by simp only [lZ, Act.put, List.setIfInBounds_toArray, List.set_cons_zero, List.set_cons_succ]) (hCont (v142, gb145) _ ⟨hHeld, (by (with_reducible repeat (first | apply Kd.R_alloc | apply Kd.R_drewN | apply Kd.R_drew)); exact Kd.R_mono HO143.out (fun _ hk => hk.2)), (by (with_reducible repeat (first | apply Kd.R_alloc | apply Kd.R_drewN | apply Kd.R_drew)); exact Kd.R_mono HO_137001.out (fun _ hk => hk.2)), (bk_ BK131.out), (bk_ BK136.out), (bk_ BK145.out), GW145.out, GE145.out, NB131_145.out, NB145_131.out, NB136_145.out, NB145_136.out, (by repeat (first | (with_reducible first | exact HB.out | apply iF | apply iD | apply iG | refine iE ?_ GE131.out | refine iE ?_ GE136.out | refine iE ?_ GE145.out) | exact HB.out))⟩)
                        rintro ⟨v142, gb145⟩ w38 ⟨hS_, h0_, h1_, h2_, h3_, h4_, h5_, h6_, h7_, h8_, h9_, h10_, h11_⟩
                        have n0_ : iC (Kd.R k96 96 w38 w.heap.size (fun k_ => some k_ ≠ (.slice Ao34 x137001_1.length co34 : Value).ownBlock) v142 t141) := ⟨h0_⟩
                        have n1_ : iC (Kd.R k96 96 w38 w.heap.size (fun k_ => some k_ ≠ (v142 : Value).ownBlock) (.slice Ao34 x137001_1.length co34) x137001_1) := ⟨h1_⟩
                        have n2_ : iC (w38.heap[gb131]? = some (.cells #[.int .u32 0, .slice none 0 0] 42 (0, 0))) := ⟨h2_⟩
                        have n3_ : iC (w38.heap[gb136]? = some (.cells #[.int .u32 x137000_1, .slice Ao34 x137001_1.length co34] 42 (0, 0))) := ⟨h3_⟩
                        have n4_ : iC (w38.heap[gb145]? = some (.cells #[.int .u32 0, .slice none 0 0] 42 (0, 0))) := ⟨h4_⟩
                        have n5_ : iC (w.heap.size ≤ gb145) := ⟨h5_⟩
                        have n6_ : iC (w.heap.size ≤ gb145) := ⟨h6_⟩
                        have n7_ : iC (gb131 ≠ gb145) := ⟨h7_⟩
                        have n8_ : iC (gb145 ≠ gb131) := ⟨h8_⟩
                        have n9_ : iC (gb136 ≠ gb145) := ⟨h9_⟩
                        have n10_ : iC (gb145 ≠ gb136) := ⟨h10_⟩
                        have n11_ : iC (Below w.heap.size w w38) := ⟨h11_⟩
                        clear HO_137001
                        clear BK131
                        clear BK136
                        clear HB
                        clear h0_ h1_ h2_ h3_ h4_ h5_ h6_ h7_ h8_ h9_ h10_ h11_
                        have HO143 := n0_
                        have HO_137001 := n1_
                        have BK131 := n2_
                        have BK136 := n3_
                        have BK145 := n4_
                        have GW145 := n5_
                        have GE145 := n6_
                        have NB131_145 := n7_
                        have NB145_131 := n8_
                        have NB136_145 := n9_
                        have NB145_136 := n10_
                        have HB := n11_
                        clear n0_ n1_ n2_ n3_ n4_ n5_ n6_ n7_ n8_ n9_ n10_ n11_
                        have hHeld : w38.cell? ⟨gb136, 0, none⟩ = some (.int .u32 x137000_1) ∧ w38.cell? ⟨gb136, 1, none⟩ = some (.slice Ao34 x137001_1.length co34) ∧ w38.cell? (ad137.add ((x8_1).toNat * 3)) = some (.int .u16 ((iQ l2 x8_1).f0)) ∧ w38.cell? ⟨(ad137.add ((x8_1).toNat * 3)).block, (ad137.add ((x8_1).toNat * 3)).off + 1, none⟩ = some (.int .u16 ((iQ l2 x8_1).f1)) ∧ w38.cell? ⟨(ad137.add ((x8_1).toNat * 3)).block, (ad137.add ((x8_1).toNat * 3)).off + 2, none⟩ = some (.int .u8 ((iQ l2 x8_1).f2)) := hS_
                        obtain ⟨Ao40, co40, eo40⟩ := Kd.R_slice HO143.out
                        (first | subst eo40 | (injection eo40 with f1_ f2_ f3_; have f4_ := f1_.symm; have f5_ := f3_.symm; clear f1_ f2_ f3_; subst f4_; subst f5_))
                        refine kR (a' := ?_) ?_ ?_
                        rotate_left
                        · simp only [lZ, Act.put, List.setIfInBounds_toArray, List.set_cons_zero, List.set_cons_succ]
                          rfl
                        refine one_ (i := 18) (N := none) #[true, true, true, true, true, true, true, true, true, true, true, true, true, true, true, true, true, true, true, false] rfl rfl (kD HT_.out (by kernel_rfl)) (by decide) (fun K hK => ?_)
                        have hs39 : w38.cell? ⟨gb145, 0, none⟩ = some (.int .u32 0) := (iH BK145.out 0).trans rfl
                        have hfs39 := iI BK145.out 0
                        have hns39_0 := NB131_145.out
                        have hns39_1 := NB136_145.out
                        have hms39_0 := NB145_131.out
                        have hms39_1 := NB145_136.out
                        have hs41 : w38.cell? ⟨gb145, 1, none⟩ = some (.slice none 0 0) := (iH BK145.out 1).trans rfl
                        have hfs41 := iI BK145.out 1
                        have hns41_0 := NB131_145.out
                        have hns41_1 := NB136_145.out
                        have hms41_0 := NB145_131.out
                        have hms41_1 := NB145_136.out
                        refine qL (w1 := ?_) (by rfl) rfl ?_ ?_
                        rotate_left
                        · go_simp
                          rfl
                        refine hK.out _ _ ⟨((cell_far (p := ⟨gb145, _, none⟩) NB136_145.out _).trans (((cell_far (p := ⟨gb145, _, none⟩) NB136_145.out _).trans (hHeld.1)))), ((cell_far (p := ⟨gb145, _, none⟩) NB136_145.out _).trans (((cell_far (p := ⟨gb145, _, none⟩) NB136_145.out _).trans (hHeld.2.1)))), ((cell_far (p := ⟨gb145, _, none⟩) (by first | exact Nat.ne_of_lt (Nat.lt_of_lt_of_le (by have := World.block_lt_of_cell? _ _ hw139_0; first | rwa [add_block] at this | exact this) GW145.out) | (rw [add_block]; exact Nat.ne_of_lt (Nat.lt_of_lt_of_le (by have := World.block_lt_of_cell? _ _ hw139_0; first | rwa [add_block] at this | exact this) GW145.out)) | (show (Addr.add _ _).block ≠ _; rw [add_block]; exact Nat.ne_of_lt (Nat.lt_of_lt_of_le (by have := World.block_lt_of_cell? _ _ hw139_0; first | rwa [add_block] at this | exact this) GW145.out)) | (dsimp only; exact Nat.ne_of_lt (Nat.lt_of_lt_of_le (by have := World.block_lt_of_cell? _ _ hw139_0; first | rwa [add_block] at this | exact this) GW145.out))) _).trans (((cell_far (p := ⟨gb145, _, none⟩) (by first | exact Nat.ne_of_lt (Nat.lt_of_lt_of_le (by have := World.block_lt_of_cell? _ _ hw139_0; first | rwa [add_block] at this | exact this) GW145.out) | (rw [add_block]; exact Nat.ne_of_lt (Nat.lt_of_lt_of_le (by have := World.block_lt_of_cell? _ _ hw139_0; first | rwa [add_block] at this | exact this) GW145.out)) | (show (Addr.add _ _).block ≠ _; rw [add_block]; exact Nat.ne_of_lt (Nat.lt_of_lt_of_le (by have := World.block_lt_of_cell? _ _ hw139_0; first | rwa [add_block] at this | exact this) GW145.out)) | (dsimp only; exact Nat.ne_of_lt (Nat.lt_of_lt_of_le (by have := World.block_lt_of_cell? _ _ hw139_0; first | rwa [add_block] at this | exact this) GW145.out))) _).trans (hHeld.2.2.1)))), ((cell_far (p := ⟨gb145, _, none⟩) (by first | exact Nat.ne_of_lt (Nat.lt_of_lt_of_le (by have := World.block_lt_of_cell? _ _ hw139_1; first | rwa [add_block] at this | exact this) GW145.out) | (rw [add_block]; exact Nat.ne_of_lt (Nat.lt_of_lt_of_le (by have := World.block_lt_of_cell? _ _ hw139_1; first | rwa [add_block] at this | exact this) GW145.out)) | (show (Addr.add _ _).block ≠ _; rw [add_block]; exact Nat.ne_of_lt (Nat.lt_of_lt_of_le (by have := World.block_lt_of_cell? _ _ hw139_1; first | rwa [add_block] at this | exact this) GW145.out)) | (dsimp only; exact Nat.ne_of_lt (Nat.lt_of_lt_of_le (by have := World.block_lt_of_cell? _ _ hw139_1; first | rwa [add_block] at this | exact this) GW145.out))) _).trans (((cell_far (p := ⟨gb145, _, none⟩) (by first | exact Nat.ne_of_lt (Nat.lt_of_lt_of_le (by have := World.block_lt_of_cell? _ _ hw139_1; first | rwa [add_block] at this | exact this) GW145.out) | (rw [add_block]; exact Nat.ne_of_lt (Nat.lt_of_lt_of_le (by have := World.block_lt_of_cell? _ _ hw139_1; first | rwa [add_block] at this | exact this) GW145.out)) | (show (Addr.add _ _).block ≠ _; rw [add_block]; exact Nat.ne_of_lt (Nat.lt_of_lt_of_le (by have := World.block_lt_of_cell? _ _ hw139_1; first | rwa [add_block] at this | exact this) GW145.out)) | (dsimp only; exact Nat.ne_of_lt (Nat.lt_of_lt_of_le (by have := World.block_lt_of_cell? _ _ hw139_1; first | rwa [add_block] at this | exact this) GW145.out))) _).trans (hHeld.2.2.2.1)))), ((cell_far (p := ⟨gb145, _, none⟩) (by first | exact Nat.ne_of_lt (Nat.lt_of_lt_of_le (by have := World.block_lt_of_cell? _ _ hw139_2; first | rwa [add_block] at this | exact this) GW145.out) | (rw [add_block]; exact Nat.ne_of_lt (Nat.lt_of_lt_of_le (by have := World.block_lt_of_cell? _ _ hw139_2; first | rwa [add_block] at this | exact this) GW145.out)) | (show (Addr.add _ _).block ≠ _; rw [add_block]; exact Nat.ne_of_lt (Nat.lt_of_lt_of_le (by have := World.block_lt_of_cell? _ _ hw139_2; first | rwa [add_block] at this | exact this) GW145.out)) | (dsimp only; exact Nat.ne_of_lt (Nat.lt_of_lt_of_le (by have := World.block_lt_of_cell? _ _ hw139_2; first | rwa [add_block] at this | exact this) GW145.out))) _).trans (((cell_far (p := ⟨gb145, _, none⟩) (by first | exact Nat.ne_of_lt (Nat.lt_of_lt_of_le (by have := World.block_lt_of_cell? _ _ hw139_2; first | rwa [add_block] at this | exact this) GW145.out) | (rw [add_block]; exact Nat.ne_of_lt (Nat.lt_of_lt_of_le (by have := World.block_lt_of_cell? _ _ hw139_2; first | rwa [add_block] at this | exact this) GW145.out)) | (show (Addr.add _ _).block ≠ _; rw [add_block]; exact Nat.ne_of_lt (Nat.lt_of_lt_of_le (by have := World.block_lt_of_cell? _ _ hw139_2; first | rwa [add_block] at this | exact this) GW145.out)) | (dsimp only; exact Nat.ne_of_lt (Nat.lt_of_lt_of_le (by have := World.block_lt_of_cell? _ _ hw139_2; first | rwa [add_block] at this | exact this) GW145.out))) _).trans (hHeld.2.2.2.2))))⟩ (fun hHeld => ?_)
                        clear hK K
                        refine iZ (i := 19) (N := some 12) (v := ?_) (a' := ?_) #[true, true, true, true, true, true, true, true, true, true, true, true, true, true, true, true, true, true, true, true] rfl rfl (iT HT_.out (by kernel_rfl)) (fun _ _ _ h => h) (Or.inl ⟨by rfl, ?_⟩) ?_ ?_
                        rotate_left
                        · intro w'
                          go_simp
                          with_reducible rfl
                        rotate_left
                        · simp only [Act.put, List.setIfInBounds_toArray, List.set_cons_zero, List.set_cons_succ, iU, iV]
                          rfl
                        refine qH (lH HT_.out (by kernel_rfl)) ?_
                        try go_wp2
                        go_roundg kj10
                        case measure => have := HK1.out; have := HJ10.out; omega
                        case rel => exact ⟨(wrap64 (x8_1 + 1)), (x137000_1), (x137001_1), (.slice Ao34 x137001_1.length co34), (by first | rfl | (simp; done) | (simp [*]; done)), H', ⟨by have := HK1.out; have := HJ10.out; omega⟩, ⟨by (with_reducible repeat (first | apply Kd.R_alloc | apply Kd.R_drewN | apply Kd.R_drew)); exact Kd.R_mono (Kd.R_far (p := ⟨gb145, 1, none⟩) (Kd.R_far (p := ⟨gb145, 0, none⟩) (Kd.R_types HO_137001.out BK145.out (by decide)) (fun _ hk => hk.2) (.int .u32 t140)) (fun _ hk => hk.2) (.slice Ao40 t141.length co40)) (fun _ hk => trivial)⟩, ⟨by (with_reducible repeat (first | refine iJ ?_ _ | refine iK ?_ | refine blk_alloc ?_ _)); refine jE ?_ NB131_145.out _; (with_reducible repeat (first | refine iJ ?_ _ | refine iK ?_ | refine blk_alloc ?_ _)); refine jE ?_ NB131_145.out _; (with_reducible repeat (first | refine iJ ?_ _ | refine iK ?_ | refine blk_alloc ?_ _)); exact BK131.out⟩, ⟨by (with_reducible repeat (first | refine iJ ?_ _ | refine iK ?_ | refine blk_alloc ?_ _)); refine jE ?_ NB136_145.out _; (with_reducible repeat (first | refine iJ ?_ _ | refine iK ?_ | refine blk_alloc ?_ _)); refine jE ?_ NB136_145.out _; (with_reducible repeat (first | refine iJ ?_ _ | refine iK ?_ | refine blk_alloc ?_ _)); exact BK136.out⟩, ⟨by repeat (first | (with_reducible first | exact HB.out | apply iF | apply iD | apply iG | refine iE ?_ GE131.out | refine iE ?_ GE136.out | refine iE ?_ GE145.out) | exact HB.out)⟩⟩
              · rw [if_neg c15] at H
                exact absurd H (by simp)
            · rw [if_neg c14] at H
              exact absurd H (by simp)
          · replace c13 := Bool.eq_false_iff.mpr c13
            subst c13
            have H1 : (some (x137000_1, x137001_1)) = some (r1, r2) := by rw [if_neg (show ¬ (false = true) by decide)] at H; exact H
            clear H
            have H := H1
            clear H1
            simp only [Option.some.injEq, Prod.mk.injEq] at H
            obtain ⟨rfl, rfl⟩ := H
            have hnb42 := NB136_131.out
            have hnc42 := NB131_136.out
            have hcz43_0 : wc.cell? ⟨gb136, 0, none⟩ = some (.int .u32 x137000_1) := (iH BK136.out 0).trans rfl
            have hcz43_1 : wc.cell? ⟨gb136, 1, none⟩ = some (u137001) := (iH BK136.out 1).trans rfl
            have hfz43_0 := iI BK136.out 0
            have hfz43_1 := iI BK136.out 1
            have hcz44_0 : wc.cell? ⟨gb131, 0, none⟩ = some (.int .u32 0) := (iH BK131.out 0).trans rfl
            have hcz44_1 : wc.cell? ⟨gb131, 1, none⟩ = some (.slice none 0 0) := (iH BK131.out 1).trans rfl
            have hfz44_0 := iI BK131.out 0
            have hfz44_1 := iI BK131.out 1
            obtain ⟨Ao45, co45, eo45⟩ := Kd.R_slice HO_137001.out
            subst eo45
            go_wp2
            refine bodyPost_ret (results_cell_row rfl _ _ gb131 42 #[.int .u32 x137000_1, .slice Ao45 x137001_1.length co45] (0, 0) _ rfl (by (with_reducible repeat (first | refine iJ ?_ _ | refine iK ?_ | refine blk_alloc ?_ _)); refine jA (cs := #[.int .u32 x137000_1, .slice none 0 0]) ?_ 1 _ rfl; (with_reducible repeat (first | refine iJ ?_ _ | refine iK ?_ | refine blk_alloc ?_ _)); refine jA (cs := #[.int .u32 0, .slice none 0 0]) ?_ 0 _ rfl; (with_reducible repeat (first | refine iJ ?_ _ | refine iK ?_ | refine blk_alloc ?_ _)); exact BK131.out) Try.underlying42 rfl (by kernel_rfl)) rfl ?_
            exact ⟨_, by first | rfl | (simp [iY, iW] <;> rfl) | (simp [*, iY, iW] <;> rfl), by (with_reducible repeat (first | apply Kd.R_alloc | apply Kd.R_drewN | apply Kd.R_drew)); exact Kd.R_mono (Kd.R_far (p := ⟨gb131, 1, none⟩) (Kd.R_far (p := ⟨gb131, 0, none⟩) (Kd.R_types HO_137001.out BK131.out (by decide)) (fun _ hk => hk.2) (.int .u32 x137000_1)) (fun _ hk => hk.2) (.slice Ao45 x137001_1.length co45)) (fun _ hk => trivial), by repeat (first | (with_reducible first | exact HB.out | apply iF | apply iD | apply iG | refine iE ?_ GE131.out | refine iE ?_ GE136.out) | exact HB.out)⟩
end Go.Proofs.Ytjppookmjdaplaa.K
end

section
namespace Go.Proofs.Ytjppookmjdaplaa.K
open Go Go.RowKit Go.Proofs.YtjppookmjdaplaaW.PrintWords Go.Proofs.YtjppookmjdaplaaW.PrintLast Go.Proofs.YtjppookmjdaplaaW.PrintMore
abbrev TCu := S91
/-- A choice is of its kind. -/
def yR (x : TCu) : Prop := (0 ≤ x.f0 ∧ x.f0 < 65536) ∧ (0 ≤ x.f1 ∧ x.f1 < 65536) ∧ (0 ≤ x.f2 ∧ x.f2 < 256)
theorem oG (x : Int) (h0 : 0 ≤ x) (h1 : x < 9223372036854775808) : wrap64 x = x := by unfold wrap64; omega
theorem vN (x n : Int) (h0 : 0 ≤ x) (h1 : 0 < n) : 0 ≤ Int.tmod x n ∧ Int.tmod x n < n := by
  rw [Int.tmod_eq_emod_of_nonneg h0]
  exact ⟨Int.emod_nonneg _ (by omega), Int.emod_lt_of_pos _ h1⟩
/-- A range of a map. -/
structure Rng (n fr tt : Int) : Prop where
  lo : 0 ≤ fr
  lt : fr < tt
  hi : tt ≤ n
theorem yX (n x y : Int) (hn : 1 ≤ n) (hn2 : n ≤ 10000) (hx : 0 ≤ x ∧ x < 65536) (hy : 0 ≤ y ∧ y < 65536) :
    wrap64 (n - Int.tmod (wrap64 x) n) ≠ 0 ∧ Rng n (Int.tmod (wrap64 x) n) (wrap64 (wrap64 (Int.tmod (wrap64 x) n + 1) + Int.tmod (wrap64 y) (wrap64 (n - Int.tmod (wrap64 x) n)))) := by
  rw [oG x hx.1 (by omega), oG y hy.1 (by omega)]
  have h1 := vN x n hx.1 (by omega)
  generalize Int.tmod x n = a at h1
  rw [oG (n - a) (by omega) (by omega), oG (a + 1) (by omega) (by omega)]
  have h2 := vN y (n - a) hy.1 (by omega)
  generalize Int.tmod y (n - a) = b at h2
  rw [oG (a + 1 + b) (by omega) (by omega)]
  exact ⟨by omega, ⟨by omega, by omega, by omega⟩⟩
theorem xN (l : List TCu) (i : Nat) (h : i < l.length) : iQ l (i : Int) = l[i] := by
  show l.getD (i : Int).toNat _ = _
  rw [Int.toNat_natCast, List.getD_eq_getElem?_getD, List.getElem?_eq_getElem h]; rfl
theorem xO (n : Nat) (nodes : Int) (hn : 1 ≤ n) (hn2 : n ≤ 10000) (hm : 1 ≤ nodes) (hm2 : nodes ≤ 6) (cs : List TCu) (hcs : ∀ x ∈ cs, yR x) :
    ∀ (j i k : Nat) (a : Int) (L : List TSp), i + j = 30 → 20200 + 2 * j < k → 0 ≤ a → a < 4294967296 → Snd L n nodes →
      ∃ a' L', stratumlaw12_Of.l0 k n nodes cs i a L = some (a', L') ∧ (0 ≤ a' ∧ a' < 4294967296) ∧ Snd L' n nodes
  | j, i, 0, _, _, _, h, _, _, _ => by omega
  | j, i, 1, _, _, _, h, _, _, _ => by omega
  | 0, i, k + 2, a, L, hi, hk, h0, h1, hL => by
    refine ⟨a, L, ?_, ⟨h0, h1⟩, hL⟩
    have hj : ∀ b, b = false → stratumlaw12_Of.j1 (k + 1) n nodes cs i b a L = some (a, L) := fun b hb => by rw [stratumlaw12_Of.j1, hb, if_neg (by decide)]
    rw [stratumlaw12_Of.l0]
    split
    · exact hj _ (decide_eq_false (by omega))
    · exact hj _ rfl
  | j + 1, i, k + 2, a, L, hi, hk, h0, h1, hL => by
    rw [stratumlaw12_Of.l0]
    by_cases hlt : i < cs.length
    · have hx := hcs cs[i] (List.getElem_mem hlt)
      have hw : wrap64 ((i : Int) + 1) = ((i + 1 : Nat) : Int) := by unfold wrap64; omega
      obtain ⟨hr0, hr⟩ := yX n cs[i].f0 cs[i].f1 (by omega) (by omega) hx.1 hx.2.1
      have ht := vN (wrap64 cs[i].f2) nodes (by rw [oG _ hx.2.2.1 (by have := hx.2.2.2; omega)]; exact hx.2.2.1) (by omega)
      have hmn : mn nodes 6 = nodes := by unfold mn; split <;> omega
      rw [if_pos (by omega), stratumlaw12_Of.j1, decide_eq_true (by omega : (i : Int) < 30), if_pos rfl, if_pos (by omega), if_pos (by omega), if_neg (by omega), xN cs i hlt, if_neg hr0, if_neg (by omega), uU k a L n nodes _ _ _ (by have := hL.len; omega) (by have := hL.len; omega), hw]
      simp only [Option.bind_some]
      rcases pX a hL hr.lo hr.lt hr.hi ht.1 (by rw [hmn]; exact ht.2) (by omega) with ⟨he, _⟩ | ⟨_, ⟨he, _⟩ | ⟨he, hs⟩⟩
      · rw [he]
        rw [if_neg (by decide)]
        exact xO n nodes hn hn2 hm hm2 cs hcs j (i + 1) k a L (by omega) (by omega) h0 h1 hL
      · rw [he]
        rw [if_neg (by decide)]
        exact xO n nodes hn hn2 hm hm2 cs hcs j (i + 1) k a L (by omega) (by omega) h0 h1 hL
      · rw [he]
        rw [if_pos rfl]
        exact xO n nodes hn hn2 hm hm2 cs hcs j (i + 1) k _ _ (by omega) (by omega) (Int.emod_nonneg _ (by decide)) (Int.emod_lt_of_pos _ (by decide)) hs
    · rw [if_neg (by omega), stratumlaw12_Of.j1, if_neg (by decide)]
      exact ⟨a, L, rfl, ⟨h0, h1⟩, hL⟩
theorem I9 (n : Nat) (nodes : Int) (hn : 1 ≤ n) (hn2 : n ≤ 10000) (hm : 1 ≤ nodes) (hm2 : nodes ≤ 6) (cs : List TCu) (hcs : ∀ x ∈ cs, yR x) (k : Nat) (hk : 20300 < k) :
    ∃ a L, stratumlaw12_Of.f k n nodes cs = some (a, L) ∧ (0 ≤ a ∧ a < 4294967296) ∧ Snd L n nodes :=
  xO n nodes hn hn2 hm hm2 cs hcs 30 0 k 1 [⟨0, 0⟩] (by omega) (by omega) (by decide) (by decide) (yU n nodes (by omega) hm)
end Go.Proofs.Ytjppookmjdaplaa.K
end

section
namespace Go.Proofs.Ytjppookmjdaplaa.K
open Go Go.RowKit Go.Maps Go.Proofs.YtjppookmjdaplaaW.PrintWords Go.Proofs.YtjppookmjdaplaaW.PrintLast Go.Proofs.YtjppookmjdaplaaW.PrintMore Go.Proofs.Ytjppookmjdaplaa.My
theorem zQ (w : World) (e : Int) (A : Option Addr) (n c : Nat) : (Instr.build 42 #[(0, .int .u32 e), (1, .slice A n c)]).run Try.prog w = .ok (.agg #[.int .u32 e, .slice A n c]) w := run_build w 42 _ _ (by kernel_rfl)
theorem IE (w : World) (e : Int) (A : Option Addr) (n c : Nat) : (Instr.build 48 #[(0, .int .u8 6), (5, .agg #[.int .u32 e, .slice A n c])]).run Try.prog w = .ok (.agg #[.int .u8 6, .int .u32 0, .int .u32 0, .slice none 0 0, .slice none 0 0, .int .u32 e, .slice A n c, .int .i64 0, .int .i64 0, .slice none 0 0]) w := run_build w 48 _ _ (by kernel_rfl)
/-- A row of spans stays while what the boss knows changes. -/
theorem fr_S {B B' : Nat} {w : World} {ok : Nat → Prop} {A : Option Addr} {c n : Nat} {l : List TSp} (h : kS.R 96 w B' ok (.slice A n c) l) : ∀ W', CoFr B w W' → kS.C W' A l.length l := fun _ hf => by
  have h1 := hf.rows h (fun q hq => by (obtain rfl : q = 96 := (by simpa [show kS.E = [] from rfl] using hq)); exact (by decide))
  obtain ⟨A', c', e', _, h2⟩ := Kd.R_reads h1
  injection e' with e1 e2 e3
  subst e1
  exact h2
theorem zO {w : World} {B : Nat} {e : Int} {A : Option Addr} {q : Nat} {l : List TSp} (h : ∀ W', CoFr B w W' → kS.C W' A l.length l) (hq : l.length ≤ q) (he : 0 ≤ e ∧ e < 4294967296) (hl : l.length ≤ 1000) : RecA w B 6 0 0 none 0 [] e A q l :=
  ⟨fun _ _ => Kd.C_nil _ _, Nat.le_refl _, h, hq, fun e => absurd e (by decide), by omega, by omega, he, hl⟩
attribute [-go_sem] Instr.build
attribute [local go_sem] zQ IE uH
set_option maxRecDepth 20000 in
set_option maxHeartbeats 8000000 in
theorem coordMaps_walk (A0 : Option Addr) (q0 : Nat) (l0 : List TCu) (A1 : Option Addr) (q1 : Nat) (l : List UInt8) (w : World) (hC0 : k91.C w A0 l0.length l0) (hc0 : l0.length ≤ q0) (ok0 : (∀ x ∈ l0, yR x) ∧ (l0.length : Int) ≤ 140737488351232) (hr : kb.C w A1 l.length l) (hc : l.length ≤ q1) :
    Calls Try.prog 4 #[.slice A0 l0.length q0, .slice A1 l.length q1] w fun e w' => e = .returned (.bool true) ∧ Below w.heap.size w w' := by
  have hmx := hr.2.1
  obtain ⟨e0, L, hof, _, hsnd⟩ := I9 100 3 (by omega) (by omega) (by omega) (by omega) l0 ok0.1 20500 (by omega)
  have hLl := hsnd.len
  have hofc := fun W h => stratumlaw12_Of.calls 20500 100 3 A0 q0 l0 e0 L W h hc0 hof
  have HL0 := iC.mk hC0
  obtain ⟨N, hN⟩ : ∃ N, l.length = N := ⟨_, rfl⟩
  have HN := iC.mk hN
  rw [hN] at hmx hr hc ⊢
  have HC := iC.mk hr
  clear hr hN hC0 hsnd hof ok0
  go_enter Try.func4, Try.ntmps4
  go_wp2_with fail
  go_at_call 10
  refine (new_any w).mono ?_
  rintro e w1 ⟨c, rfl, h1, hb1⟩
  have HB1 := iC.mk hb1
  have H1 := iC.mk h1
  clear h1 hb1
  by_cases hbig : 60 < N
  · go_wp2_with fail
    go_at_call 12
    refine (nS _).mono ?_
    rintro e w2 ⟨rfl, hb2⟩
    have HB2 := iC.mk (iL HB1.out hb2)
    clear hb2
    go_wp2
    go_ret
    exact ⟨rfl, HB2.out⟩
  · have hcall := hofc w1 (Kd.C_below HL0.out HB1.out)
    go_wp2_with fail
    go_at_call 17
    refine hcall.mono ?_
    rintro e w2 ⟨v2, rfl, hR2, hb2⟩
    obtain ⟨A2, q2, rfl⟩ := Kd.R_slice hR2
    have HB2 := iC.mk (iL HB1.out hb2)
    have H2 := iC.mk (H1.out.below hb2)
    have HR2 := iC.mk (Kd.R_lower hR2 HB1.out.size)
    obtain ⟨M, hM⟩ : ∃ M, L.length = M := ⟨_, rfl⟩
    have HM := iC.mk hM
    rw [hM] at HR2 hLl ⊢
    clear hcall hofc hR2 hb2 HB1 H1 hM
    go_wp2
    obtain ⟨g, hg⟩ : ∃ g, g = w2.heap.size := ⟨_, rfl⟩
    have hX3 : (w2.alloc (.cells #[.int .u32 e0, .slice A2 M q2] 42)).heap[g]? = some (.cells #[.int .u32 e0, .slice A2 M q2] 42 (0, 0)) := jJ hg
    have HX3 := iC.mk hX3
    have HB3 := iC.mk (iF HB2.out (.cells #[.int .u32 e0, .slice A2 M q2] 42))
    have H3 := iC.mk (H2.out.below (iF (Below.refl _ _) (.cells #[.int .u32 e0, .slice A2 M q2] 42)))
    have HR3 := iC.mk (Kd.R_alloc HR2.out (.cells #[.int .u32 e0, .slice A2 M q2] 42))
    generalize w2.alloc (.cells #[.int .u32 e0, .slice A2 M q2] 42) = w3 at HX3 HB3 H3 HR3 ⊢
    rw [← hg]
    have HG := iC.mk (show w.heap.size ≤ g from by rw [hg]; exact HB2.out.size)
    clear hX3 hg HB2 H2 HR2
    go_loopw [7, 8] (fun p q wr => ∃ (i : Nat) (s : CS), p = .int .u32 s.ep ∧ q = .int .i64 (i : Int) ∧ i ≤ N ∧ iC (Co c wr w.heap.size c 0 s) ∧ iC (CoFr w.heap.size w wr) ∧ iC (wr.heap[g]? = some (.cells #[.int .u32 e0, .slice A2 M q2] 42 (0, 0))) ∧ iC (kS.R 96 wr w.heap.size (fun _ => True) (.slice A2 M q2) L) ∧ iC (1 ≤ s.ep ∧ s.ep ≤ 1 + i)) (fun _ q _ => ((N : Int) - intOf q).toNat)
    case atStart => exact ⟨0, CS.new, rfl, rfl, Nat.zero_le _, H3, ⟨CoFr.of_below HB3.out (Nat.le_refl _)⟩, HX3, HR3, ⟨by decide, by decide⟩⟩
    case round =>
      obtain ⟨i, s, rfl, rfl, hi, HS, HF, HXr, HRr, HE⟩ := hrel
      by_cases hlt : i < N
      · have hCr : kb.C wr A1 N l := Kd.C_below HC.out HF.out.below
        obtain ⟨ad, rfl, hx⟩ := C_at hCr i hlt
        obtain ⟨X, hX⟩ : ∃ X, X = ((l.getD i 0).toNat : Int) := ⟨_, rfl⟩
        have hX0 : 0 ≤ X ∧ X < 256 := by have := (l.getD i 0).toNat_lt; omega
        rw [← hX] at hx
        have hw : wrap64 ((i : Int) + 1) = ((i + 1 : Nat) : Int) := by unfold wrap64; omega
        have hm3 : X.tmod 3 = X % 3 := Int.tmod_eq_emod_of_nonneg hX0.1
        have HX0 := iC.mk hX0
        have HM3 := iC.mk hm3
        have HXV := iC.mk hX
        have y1 := (iH HXr.out 1).trans (show _ = some (Value.slice A2 M q2) from rfl)
        clear hX hCr hX0 hm3
        go_upto_region 9 with fail
        refine mQ (n := 13) (S := fun w' => w'.cell? (ad.add i) = some (.int .u8 X) ∧ w'.cell? ⟨g, 1, none⟩ = some (.slice A2 M q2)) (ds := [12]) #[false, false, false, false, false, false, false, false, false, false, false, false, false] (by kernel_rfl) rfl rfl ⟨hx, y1⟩ (fun hHeld => ?_)
        refine kJ (T := (true, [([], []), ([], []), ([], []), ([1, 2], [1, 2]), ([3], [3]), ([4], [4]), ([5], [5]), ([0, 6], [0, 6]), ([], []), ([8], [8]), ([7, 9], [7, 9]), ([], []), ([11, 10, 0, 1, 2, 3, 4, 5, 6, 7, 8, 9, 10, 11], [10, 11])])) (B := [0, 0, 0, 6, 14, 30, 62, 127, 0, 256, 1023, 0, 4095]) (by kernel_rfl) (by kernel_rfl) (fun HT_ HW_ => ?_)
        refine iZ (i := 0) (N := some 32) (v := ?_) (a' := ?_) #[true, false, false, false, false, false, false, false, false, false, false, false, false] rfl rfl (iT HT_.out (by kernel_rfl)) (fun _ _ _ h => h) (Or.inl ⟨by rfl, ?_⟩) ?_ ?_
        rotate_left
        · intro w'
          go_simp
          with_reducible rfl
        rotate_left
        · simp only [Act.put, List.setIfInBounds_toArray, List.set_cons_zero, List.set_cons_succ, iU, iV]
          rfl
        refine iZ (i := 1) (N := some 33) (v := ?_) (a' := ?_) #[true, true, false, false, false, false, false, false, false, false, false, false, false] rfl rfl (iT HT_.out (by kernel_rfl)) (fun _ _ _ h => h) (Or.inl ⟨by rfl, ?_⟩) ?_ ?_
        rotate_left
        · intro w'
          go_simp
          with_reducible rfl
        rotate_left
        · simp only [Act.put, List.setIfInBounds_toArray, List.set_cons_zero, List.set_cons_succ, iU, iV]
          rfl
        refine iZ (i := 2) (N := some 34) (v := ?_) (a' := ?_) #[true, true, true, false, false, false, false, false, false, false, false, false, false] rfl rfl (iT HT_.out (by kernel_rfl)) (fun _ _ _ h => h) (Or.inl ⟨by rfl, ?_⟩) ?_ ?_
        rotate_left
        · intro w'
          go_simp
          with_reducible rfl
        rotate_left
        · simp only [Act.put, List.setIfInBounds_toArray, List.set_cons_zero, List.set_cons_succ, iU, iV]
          rfl
        refine iZ (i := 3) (N := some 35) (v := ?_) (a' := ?_) #[true, true, true, true, false, false, false, false, false, false, false, false, false] rfl rfl (iT HT_.out (by kernel_rfl)) (fun _ _ _ h => h) (Or.inl ⟨by rfl, ?_⟩) ?_ ?_
        rotate_left
        · intro w'
          go_simp
          with_reducible rfl
        rotate_left
        · simp only [Act.put, List.setIfInBounds_toArray, List.set_cons_zero, List.set_cons_succ, iU, iV]
          rfl
        refine iZ (i := 8) (N := some 40) (v := ?_) (a' := ?_) #[true, true, true, true, false, false, false, false, true, false, false, false, false] rfl rfl (iT HT_.out (by kernel_rfl)) (fun _ _ _ h => h) (Or.inl ⟨by rfl, ?_⟩) ?_ ?_
        rotate_left
        · intro w'
          go_simp
          with_reducible rfl
        rotate_left
        · simp only [Act.put, List.setIfInBounds_toArray, List.set_cons_zero, List.set_cons_succ, iU, iV]
          rfl
        refine lI (i := 4) (N := some 36) (v := ?_) (a' := ?_) #[true, true, true, true, true, false, false, false, true, false, false, false, false] rfl rfl (jI HT_.out HW_.out (by kernel_rfl)) (fun _ _ _ h => h) (Or.inl ⟨by rfl, ?_⟩) hHeld ?_ ?_
        rotate_left
        · rintro w' ⟨s0, s1⟩
          go_simp
          with_reducible rfl
        rotate_left
        · simp only [Act.put, List.setIfInBounds_toArray, List.set_cons_zero, List.set_cons_succ, iU, iV]
          rfl
        refine iZ (i := 5) (N := some 37) (v := ?_) (a' := ?_) #[true, true, true, true, true, true, false, false, true, false, false, false, false] rfl rfl (iT HT_.out (by kernel_rfl)) (fun _ _ _ h => h) (Or.inl ⟨by rfl, ?_⟩) ?_ ?_
        rotate_left
        · intro w'
          go_simp
          with_reducible rfl
        rotate_left
        · simp only [Act.put, List.setIfInBounds_toArray, List.set_cons_zero, List.set_cons_succ, iU, iV]
          rfl
        refine iZ (i := 6) (N := some 38) (v := ?_) (a' := ?_) #[true, true, true, true, true, true, true, false, true, false, false, false, false] rfl rfl (iT HT_.out (by kernel_rfl)) (fun _ _ _ h => h) (Or.inl ⟨by rfl, ?_⟩) ?_ ?_
        rotate_left
        · intro w'
          go_simp
          with_reducible rfl
        rotate_left
        · simp only [Act.put, List.setIfInBounds_toArray, List.set_cons_zero, List.set_cons_succ, iU, iV]
          rfl
        refine iZ (i := 7) (N := some 39) (v := ?_) (a' := ?_) #[true, true, true, true, true, true, true, true, true, false, false, false, false] rfl rfl (iT HT_.out (by kernel_rfl)) (fun _ _ _ h => h) (Or.inl ⟨by rfl, ?_⟩) ?_ ?_
        rotate_left
        · intro w'
          go_simp
          with_reducible rfl
        rotate_left
        · simp only [Act.put, List.setIfInBounds_toArray, List.set_cons_zero, List.set_cons_succ, iU, iV]
          rfl
        refine lI (i := 9) (N := some 41) (v := ?_) (a' := ?_) #[true, true, true, true, true, true, true, true, true, true, false, false, false] rfl rfl (jI HT_.out HW_.out (by kernel_rfl)) (fun _ _ _ h => h) (Or.inl ⟨by rfl, ?_⟩) hHeld ?_ ?_
        rotate_left
        · rintro w' ⟨s0, s1⟩
          go_simp
          with_reducible rfl
        rotate_left
        · simp only [Act.put, List.setIfInBounds_toArray, List.set_cons_zero, List.set_cons_succ, iU, iV]
          rfl
        refine iZ (i := 10) (N := some 42) (v := ?_) (a' := ?_) #[true, true, true, true, true, true, true, true, true, true, true, false, false] rfl rfl (iT HT_.out (by kernel_rfl)) (fun _ _ _ h => h) (Or.inl ⟨by rfl, ?_⟩) ?_ ?_
        rotate_left
        · intro w'
          go_simp
          with_reducible rfl
        rotate_left
        · simp only [Act.put, List.setIfInBounds_toArray, List.set_cons_zero, List.set_cons_succ, iU, iV]
          rfl
        refine one_ (i := 11) (N := some 9) #[true, true, true, true, true, true, true, true, true, true, true, true, false] rfl rfl (kD HT_.out (by kernel_rfl)) (by decide) (fun K hK => ?_)
        refine nV (w1 := ?_) (v := ?_) (by rfl) rfl ?_ ?_
        rotate_left 2
        · go_simp
          constructor
          · rfl
          · rfl
        refine hK.out _ _ ⟨(qQ (iF (Below.refl _ _) _) (show wr.drew.cell? _ = _ from hx)), (qQ (iF (Below.refl _ _) _) (show wr.drew.cell? _ = _ from y1))⟩ (fun hHeld => ?_)
        clear hK K
        refine kR (a' := ?_) ?_ ?_
        rotate_left
        · show Act.put _ (some 9) _ = _
          simp only [Act.put, List.setIfInBounds_toArray, List.set_cons_zero, List.set_cons_succ, iU, iV]
          rfl
        refine uJ (i := 12) (N := none) #[true, true, true, true, true, true, true, true, true, true, true, true, true] rfl rfl (kD HT_.out (by kernel_rfl)) (by decide) (fun K hK => ?_)
        refine qL (w1 := ?_) (by rfl) rfl ?_ ?_
        rotate_left
        · go_simp
          rfl
        refine hK.out _ _ ?_
        clear hK K
        refine qH (lH HT_.out (by kernel_rfl)) ?_
        have hep := HE.out
        obtain ⟨E, hEE⟩ : ∃ E, E = IntKind.u32.wrap (s.ep + IntKind.u32.wrap (X.tmod 3)) := ⟨_, rfl⟩
        have hE2 : E = s.ep + X % 3 := by
          have := HX0.out
          rw [hEE, HM3.out]
          simp only [IntKind.wrap, IntKind.signed, IntKind.bits]
          simp
          omega
        rw [← hEE]
        obtain ⟨W, hW⟩ : ∃ W, W = (wr.alloc (.cells #[.int .u32 E, .slice A2 M q2] 42)).drew := ⟨_, rfl⟩
        have hb4 : Below wr.heap.size wr W := by rw [hW]; exact jB (iF (Below.refl _ _) _)
        have hX4 : W.heap[wr.heap.size]? = some (.cells #[.int .u32 E, .slice A2 M q2] 42 (0, 0)) := by rw [hW]; exact rQ (jJ rfl)
        rw [← hW]
        have z0 := (iH hX4 0).trans (show _ = some (Value.int .u32 E) from rfl)
        have z1 := (iH hX4 1).trans (show _ = some (Value.slice A2 M q2) from rfl)
        have HS4 := iC.mk (HS.out.below hb4)
        have HF4 := iC.mk (HF.out.trans (CoFr.of_below hb4 HS.out.Ble))
        have HX4 := iC.mk (jK hb4 HXr.out)
        have HR4 := iC.mk (Kd.R_below HRr.out hb4)
        have hx4 : W.cell? (ad.add i) = some (.int .u8 X) := qQ hb4 hx
        have hfr : ∀ W', CoFr w.heap.size W W' → kS.C W' A2 L.length L := fr_S HR4.out
        have hap := vM (x4 := .slice none 0 0) (x7 := .int .i64 0) (x8 := .int .i64 0) (x9 := .slice none 0 0) HS4.out (zO (e := E) (q := q2) hfr (by rw [HM.out]; exact (Kd.R_reads' HR4.out).2.1) (by omega) (by rw [HM.out]; omega))
        simp only [List.length_nil] at hap
        rw [HM.out] at hap
        have HEP := iC.mk (And.intro hep hE2)
        clear hEE hW hb4 hX4 hx y1 hfr hE2 hep HS HF HXr HRr
        by_cases h1 : X % 3 = 1
        · have hme : s.mapE E = 0 := by unfold CS.mapE; rw [if_pos (by have := HEP.out; omega)]
          have hma : s.map_ E L = ⟨s.L, s.last, s.starts, s.begun, E, L⟩ := by unfold CS.map_; rw [if_pos (by have := HEP.out; omega)]
          rw [hme, hma] at hap
          have hm3 : (X.tmod 3 == 1) = true := by rw [HM3.out, h1]; rfl
          have hae : (s.ep + 1) % 4294967296 = E := by have := HEP.out; omega
          clear hme hma
          go_wp2_with fail
          go_at_call 18
          refine hap.mono ?_
          rintro e w5 ⟨rfl, h5, hf5⟩
          have H5 := iC.mk h5
          have HF5 := iC.mk (HF4.out.trans hf5)
          have HX5 := iC.mk (hf5.cells _ _ _ _ HX4.out (by decide) (by decide))
          have HR5 := iC.mk (hf5.rows HR4.out (fun q hq => by (obtain rfl : q = 96 := (by simpa [show kS.E = [] from rfl] using hq)); exact (by decide)))
          have hx5 : w5.cell? (ad.add i) = some (.int .u8 X) := by
            obtain ⟨ad', e', h'⟩ := C_at (Kd.C_below HC.out HF5.out.below) i hlt
            cases e'
            rw [HXV.out]; exact h'
          have hcall := qV h5
          clear hap h5 hf5 z0 z1 hx4
          go_wp2_with fail
          go_at_call 19
          refine hcall.mono ?_
          rintro e w6 ⟨v6, rfl, _, hb6⟩
          have H6 := iC.mk (H5.out.below hb6)
          have HF6 := iC.mk (HF5.out.trans (CoFr.of_below hb6 H5.out.Ble))
          have HX6 := iC.mk (jK hb6 HX5.out)
          have HR6 := iC.mk (Kd.R_below HR5.out hb6)
          clear hb6 hcall hx5
          go_wp2
          go_roundw
          case rel => exact ⟨i + 1, _, rfl, by first | rfl | rw [hw], hlt, H6, HF6, HX6, HR6, ⟨by have := HEP.out; show 1 ≤ E ∧ E ≤ 1 + ((i + 1 : Nat) : Int); omega⟩⟩
          case measure => (first | (simp [intOf, hw]; omega) | (simp [intOf]; omega))
        · have hme : s.mapE E = 120 := by unfold CS.mapE; rw [if_neg (by have := HEP.out; omega)]
          have hma : s.map_ E L = s := by unfold CS.map_; rw [if_neg (by have := HEP.out; omega)]
          rw [hme, hma] at hap
          have hm3 : (X.tmod 3 == 1) = false := by rw [HM3.out]; simpa using h1
          clear hme hma
          go_wp2_with fail
          go_at_call 18
          refine hap.mono ?_
          rintro e w5 ⟨rfl, h5, hf5⟩
          have H5 := iC.mk h5
          have HF5 := iC.mk (HF4.out.trans hf5)
          have HX5 := iC.mk (hf5.cells _ _ _ _ HX4.out (by decide) (by decide))
          have HR5 := iC.mk (hf5.rows HR4.out (fun q hq => by (obtain rfl : q = 96 := (by simpa [show kS.E = [] from rfl] using hq)); exact (by decide)))
          have hx5 : w5.cell? (ad.add i) = some (.int .u8 X) := by
            obtain ⟨ad', e', h'⟩ := C_at (Kd.C_below HC.out HF5.out.below) i hlt
            cases e'
            rw [HXV.out]; exact h'
          have hcall := qV h5
          clear hap h5 hf5 z0 z1 hx4
          go_wp2_with fail
          go_at_call 19
          refine hcall.mono ?_
          rintro e w6 ⟨v6, rfl, _, hb6⟩
          have H6 := iC.mk (H5.out.below hb6)
          have HF6 := iC.mk (HF5.out.trans (CoFr.of_below hb6 H5.out.Ble))
          have HX6 := iC.mk (jK hb6 HX5.out)
          have HR6 := iC.mk (Kd.R_below HR5.out hb6)
          clear hb6 hcall hx5
          go_wp2
          go_roundw
          case rel => exact ⟨i + 1, _, rfl, by first | rfl | rw [hw], hlt, H6, HF6, HX6, HR6, ⟨by have := HEP.out; omega⟩⟩
          case measure => (first | (simp [intOf, hw]; omega) | (simp [intOf]; omega))
      · obtain rfl : i = N := by omega
        go_wp2_with fail
        go_at_call 12
        refine (nS _).mono ?_
        rintro e w2 ⟨rfl, hb2⟩
        have HB2 := iC.mk (iL HF.out.below hb2)
        clear hb2
        go_wp2
        go_ret
        exact ⟨rfl, HB2.out⟩
end Go.Proofs.Ytjppookmjdaplaa.K
end

section
namespace Go.Proofs.Ytjppookmjdaplaa.My
open Go Go.RowKit Go.Deep Go.ChangeShapes Go.WideShapes Go.ChangeAt Go.Proofs.YtjppookmjdaplaaW.PrintWords
/-- A value of type t that came in reads as a v of kind d, of which ok holds and which is no heavier than the datum's bulk. -/
def Came {α : Type} (d : Kd α) (t : TypeId) (ok : α → Prop) (wt : α → Nat) : Prop :=
  ∀ {H : Type} (enc : TypeId × Value → H) (w : World) (fuel : Nat) (cs : List Value) (x : DataW H × List MemPlace), DataW.trod enc Try.prog w 0 (fun _ => true) true fuel t cs = some x → ∃ v : α, d.K w v cs ∧ ok v ∧ wt v ≤ Rows.uptoBulk x.1
theorem xG {k : IntKind} {t : TypeId} (ht : Try.prog.underlying t = some (.int k)) : Came (Kd.int k) t (fun n => (Lit.int k n).wf = true) (fun _ => 1) := by
  intro H enc w fuel cs x h
  obtain ⟨n, rfl, hx, hw⟩ := DataW.trod_int ht h
  exact ⟨n, rfl, hw, by rw [hx]; simp [Rows.uptoBulk]⟩
theorem xQ {α : Type} [Inhabited α] {n : Nat} {p : Nat → α → Prop} (h : ∀ i, i < n → ∃ x, p i x) : ∃ f : Nat → α, ∀ i, i < n → p i (f i) := by
  classical
  refine ⟨fun i => if h' : i < n then Classical.choose (h i h') else default, fun i hi => ?_⟩
  simp only [dif_pos hi]
  exact Classical.choose_spec (h i hi)
theorem xB {w : World} {a : Addr} {n : Nat} {cs : List Value} (h : w.cells? 0 a n = some cs) (i : Nat) (v : Value) (hi : cs[i]? = some v) : w.cell? (a.add i) = some v := by
  obtain ⟨_, hl, hc⟩ := World.cells?_some h
  have hil : i < n := by have := (List.getElem?_eq_some_iff.1 hi).1; omega
  rw [hc i hil]
  exact hi
end Go.Proofs.Ytjppookmjdaplaa.My
end

section
namespace Go.Proofs.Ytjppookmjdaplaa.My
open Go Go.RowKit Go.Deep Go.ChangeShapes Go.WideShapes Go.ChangeAt Go.Proofs.YtjppookmjdaplaaW.PrintWords
/-- Nothing in it is too large. -/
def Reach {H : Type} (t : TypeId) (d : DataW H) : Prop := ∀ n ∈ d.weights Try.prog t, n ≤ reachBytes
def lD {α : Type} (d : Kd α) (t : TypeId) (ok : α → Prop) : Prop :=
  ∀ {H : Type} (enc : TypeId × Value → H) (w : World) (fuel : Nat) (cs : List Value) (x : DataW H × List MemPlace), DataW.trod enc Try.prog w 0 (fun _ => true) true fuel t cs = some x → Reach t x.1 → ∃ v : α, d.K w v cs ∧ ok v
theorem xI {α : Type} {d : Kd α} {t : TypeId} {ok : α → Prop} {wt : α → Nat} (h : Came d t ok wt) : lD d t ok := by
  intro H enc w fuel cs x hx _
  obtain ⟨v, h1, h2, _⟩ := h enc w fuel cs x hx
  exact ⟨v, h1, h2⟩
theorem oD {α : Type} {d : Kd α} {t : TypeId} {ok ok' : α → Prop} (h : lD d t ok) (hok : ∀ x, ok x → ok' x) : lD d t ok' := by
  intro H enc w fuel cs x hx hr
  obtain ⟨v, h1, h2⟩ := h enc w fuel cs x hx hr
  exact ⟨v, h1, hok v h2⟩
theorem nR {H : Type} {e : TypeId} : ∀ {l : List (DataW H)} {d : DataW H}, d ∈ l → ∀ n ∈ d.weights Try.prog e, n ∈ DataW.weightsAll Try.prog e l
  | x :: l, d, hd, n, hn => by
    simp only [DataW.weightsAll, List.mem_append]
    rcases List.mem_cons.1 hd with rfl | hd
    · exact .inl hn
    · exact .inr (nR hd n hn)
  | [], d, hd, n, hn => by cases hd
theorem qI {α : Type} [Inhabited α] {d : Kd α} {t e : TypeId} {ok : α → Prop} {B : Nat} (ht : Try.prog.underlying t = some (.slice e)) (hc : Try.prog.cellsOf e = d.sz) (hB : Try.prog.bytesOf e = B) (he : lD d e ok) :
    lD (Kd.slice e d) t (fun l => l.length * B ≤ reachBytes ∧ ∀ x ∈ l, ok x) := by
  intro H enc w fuel cs x h hr
  rcases open_slice ht h with ⟨rfl, rfl⟩ | ⟨ad, len, cap, m, n, D, Pl, rfl, _, hl, hmax, hm, rfl, hel⟩
  · exact ⟨[], ⟨none, 0, rfl, Nat.le_refl _, ⟨rfl, by simp, fun h => absurd h (Nat.lt_irrefl 0)⟩⟩, by simp⟩
  · have hlm : len ≤ m := by rw [hm]; simp; exact hl
    have hw : ∀ n, n ∈ (((List.range len).map D).length + ((List.range (m - len)).map fun j => D (len + j)).length) * Try.prog.bytesOf e :: (DataW.weightsAll Try.prog e ((List.range len).map D) ++ DataW.weightsAll Try.prog e ((List.range (m - len)).map fun j => D (len + j))) → n ≤ reachBytes := by
      intro n hn
      refine hr n ?_
      simp only [DataW.weights, ht]
      exact hn
    have one : ∀ i, i < len → ∃ v : α, (∃ cs', w.cells? 0 (ad.add (i * Try.prog.cellsOf e)) (Try.prog.cellsOf e) = some cs' ∧ d.K w v cs') ∧ ok v := by
      intro i hi
      obtain ⟨cs', h1, h2⟩ := hel i (by omega)
      obtain ⟨v, h3, h4⟩ := he enc w n cs' _ h2 (fun k hk => hw k (List.mem_cons_of_mem _ (List.mem_append_left _ (nR (List.mem_map.2 ⟨i, List.mem_range.2 hi, rfl⟩) k hk))))
      exact ⟨v, ⟨cs', h1, h3⟩, h4⟩
    obtain ⟨L, hL⟩ := xQ one
    have hlen : ((List.range len).map L).length = len := by simp
    refine ⟨(List.range len).map L, ⟨some ad, cap, by rw [hlen], by rw [hlen]; exact hl, ?_⟩, ?_, ?_⟩
    · rw [hlen]
      refine ⟨hlen, by unfold maxLen at hmax; omega, fun _ => ⟨ad, rfl, fun j p hj => ?_⟩⟩
      have hjl : j < len := by have := (List.getElem?_eq_some_iff.1 hj).1; simpa using this
      have hp : p = L j := by
        rw [List.getElem?_map, List.getElem?_range hjl] at hj
        simp only [Option.map_some, Option.some.injEq] at hj
        exact hj.symm
      subst hp
      obtain ⟨⟨cs', h1, h2⟩, _⟩ := hL j hjl
      rw [hc] at h1
      refine ⟨cs', d.K_len h2, h2, fun i u hi => ?_⟩
      have := xB h1 i u hi
      rwa [Go.Deep.add_add] at this
    · have h1 := hw _ List.mem_cons_self
      rw [List.length_map, List.length_map, List.length_range, List.length_range, hB] at h1
      rw [hlen]
      exact Nat.le_trans (Nat.mul_le_mul_right B (by omega)) h1
    · intro y hy
      obtain ⟨i, hi, rfl⟩ := List.mem_map.1 hy
      exact (hL i (List.mem_range.1 hi)).2
/-- What a slice argument is. -/
theorem came_CS {α : Type} {d : Kd α} {t e : TypeId} {ok : List α → Prop} (h : lD (Kd.slice e d) t ok) {H : Type} (enc : TypeId × Value → H) {w : World} {fuel : Nat} {v : Value} {x : DataW H × List MemPlace} (ht : DataW.trod enc Try.prog w 0 (fun _ => true) true fuel t v.cells.toList = some x) (hr : Reach t x.1) :
    ∃ (A : Option Addr) (c : Nat) (l : List α), v.cells.toList = [.slice A l.length c] ∧ l.length ≤ c ∧ d.C w A l.length l ∧ ok l := by
  obtain ⟨l, ⟨A, c, h1, h2, h3⟩, h4⟩ := h enc w fuel _ x ht hr
  exact ⟨A, c, l, h1, h2, h3, h4⟩
theorem reach_arg {H : Type} {ts : List TypeId} {ds : List (DataW H)} (h : (DataW.weightsEach Try.prog ts ds).all (· ≤ reachBytes) = true) {j : Nat} {t : TypeId} {d : DataW H} (ht : ts[j]? = some t) (hd : ds[j]? = some d) : Reach t d := fun n hn => by
  have := List.all_eq_true.1 h n (DataW.weights_mem_each ht hd n hn)
  simpa using this
theorem uK : reachBytes = 140737488351232 := rfl
end Go.Proofs.Ytjppookmjdaplaa.My
end

section
namespace Go.Proofs.Ytjppookmjdaplaa.My
open Go Go.RowKit Go.Deep Go.ChangeShapes Go.WideShapes Go.ChangeAt Go.Proofs.YtjppookmjdaplaaW.PrintWords
theorem oL {α : Type} {n : Nat} : ∀ {l : List α}, l.length = n + 1 → ∃ x t, l = x :: t ∧ t.length = n
  | x :: t, h => ⟨x, t, rfl, by simpa using h⟩
theorem rP {α β γ : Type} {da : Kd α} {db : Kd β} {dc : Kd γ} {t : TypeId} {f0 f1 f2 : Field} {oka : α → Prop} {okb : β → Prop} {okc : γ → Prop} (ht : Try.prog.underlying t = some (.struct #[f0, f1, f2])) (ct : Try.prog.cellsOf t = da.sz + (db.sz + dc.sz))
    (h0 : f0.offset = 0) (h1 : f1.offset = da.sz) (h2 : f2.offset = da.sz + db.sz) (c0 : Try.prog.cellsOf f0.type = da.sz) (c1 : Try.prog.cellsOf f1.type = db.sz) (c2 : Try.prog.cellsOf f2.type = dc.sz) (A : lD da f0.type oka) (B : lD db f1.type okb) (C : lD dc f2.type okc) :
    lD (Kd.pair da (Kd.pair db dc)) t (fun x => oka x.1 ∧ okb x.2.1 ∧ okc x.2.2) := by
  intro H enc w fuel cs x h hr
  obtain ⟨xs, n, rfl, rfl, hl, hlen, hf⟩ := DataW.trod_struct ht h
  have hl0 : xs.length = 2 + 1 := hlen
  obtain ⟨y0, t0, rfl, hl1⟩ := oL hl0
  obtain ⟨y1, t1, rfl, hl2⟩ := oL (n := 1) hl1
  obtain ⟨y2, t2, rfl, hl3⟩ := oL (n := 0) hl2
  obtain rfl := List.eq_nil_of_length_eq_zero hl3
  · have e0 := hf 0 _ rfl
    have e1 := hf 1 _ rfl
    have e2 := hf 2 _ rfl
    have e0 : DataW.trod enc Try.prog w 0 (fun _ => true) true n f0.type (List.take (Try.prog.cellsOf f0.type) (List.drop f0.offset cs)) = some y0 := e0
    have e1 : DataW.trod enc Try.prog w 0 (fun _ => true) true n f1.type (List.take (Try.prog.cellsOf f1.type) (List.drop f1.offset cs)) = some y1 := e1
    have e2 : DataW.trod enc Try.prog w 0 (fun _ => true) true n f2.type (List.take (Try.prog.cellsOf f2.type) (List.drop f2.offset cs)) = some y2 := e2
    rw [h0, c0, List.drop_zero] at e0
    rw [h1, c1] at e1
    rw [h2, c2] at e2
    have hl : cs.length = da.sz + (db.sz + dc.sz) := by rw [← ct]; exact hl
    have hw : ∀ k, k ∈ DataW.weights Try.prog f0.type y0.1 ++ (DataW.weights Try.prog f1.type y1.1 ++ (DataW.weights Try.prog f2.type y2.1 ++ [])) → k ≤ reachBytes := fun k hk => hr k (by
      simp only [DataW.weights, ht]
      simpa [DataW.weightsEach] using hk)
    obtain ⟨v0, k0, o0⟩ := A enc w n _ _ e0 (fun k hk => hw k (List.mem_append_left _ hk))
    obtain ⟨v1, k1, o1⟩ := B enc w n _ _ e1 (fun k hk => hw k (List.mem_append_right _ (List.mem_append_left _ hk)))
    obtain ⟨v2, k2, o2⟩ := C enc w n _ _ e2 (fun k hk => hw k (List.mem_append_right _ (List.mem_append_right _ (List.mem_append_left _ hk))))
    refine ⟨(v0, v1, v2), ⟨_, _, ?_, k0, _, _, rfl, k1, k2⟩, ⟨o0, o1, o2⟩⟩
    have hd : List.drop (da.sz + db.sz) cs = List.drop db.sz (List.drop da.sz cs) := by first | rw [List.drop_drop] | rw [List.drop_drop, Nat.add_comm]
    rw [List.take_of_length_le (l := List.drop (da.sz + db.sz) cs) (by rw [List.length_drop]; omega), hd, List.take_append_drop, List.take_append_drop]
theorem vY {α β : Type} {d : Kd α} {t : TypeId} {ok : α → Prop} (f : β → α) (g : α → β) (hfg : ∀ x, f (g x) = x) (h : lD d t ok) : lD (Kd.iso d f) t (fun y => ok (f y)) := by
  intro H enc w fuel cs x hx hr
  obtain ⟨v, h1, h2⟩ := h enc w fuel cs x hx hr
  exact ⟨g v, by show d.K w (f (g v)) cs; rw [hfg]; exact h1, by show ok (f (g v)); rw [hfg]; exact h2⟩
theorem nK {k : IntKind} {t : TypeId} (ht : Try.prog.underlying t = some (.int k)) : lD (Kd.int k) t (fun n => (Lit.int k n).wf = true) := xI (xG ht)
instance : Inhabited K.S103 := ⟨K.z103⟩
instance : Inhabited K.S96 := ⟨K.z96⟩
instance : Inhabited K.S91 := ⟨K.z91⟩
theorem uQ : lD K.k91 91 (fun x => (0 ≤ x.f0 ∧ x.f0 < 65536) ∧ (0 ≤ x.f1 ∧ x.f1 < 65536) ∧ (0 ≤ x.f2 ∧ x.f2 < 256)) :=
  oD (vY (fun x : K.S91 => (x.f0, x.f1, x.f2)) (fun p => ⟨p.1, p.2.1, p.2.2⟩) (fun _ => rfl) (rP Try.underlying91 (by kernel_rfl) rfl rfl rfl (by kernel_rfl) (by kernel_rfl) (by kernel_rfl) (nK Try.underlying29) (nK Try.underlying29) (nK Try.underlying5))) (fun _ h => ⟨wf_u16 h.1, wf_u16 h.2.1, wf_u8 h.2.2⟩)
theorem cameS_cuts : lD (Kd.slice 91 K.k91) 39 (fun l => (∀ x ∈ l, (0 ≤ x.f0 ∧ x.f0 < 65536) ∧ (0 ≤ x.f1 ∧ x.f1 < 65536) ∧ (0 ≤ x.f2 ∧ x.f2 < 256)) ∧ (l.length : Int) ≤ 140737488351232) :=
  oD (qI (B := 6) Try.underlying39 (by kernel_rfl) (by kernel_rfl) uQ) (fun _ h => ⟨h.2, by have := h.1; rw [uK] at this; omega⟩)
end Go.Proofs.Ytjppookmjdaplaa.My
end
