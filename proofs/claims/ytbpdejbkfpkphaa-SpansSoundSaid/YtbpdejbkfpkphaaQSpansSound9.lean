/- Parts of the proof, one behind the other: K47, SpJ, SpW3, Came, CameS, CameP. -/
import Derived.Test.YtbpdejbkfpkphaaQSpansSound8
import Derived.Test.YtbpdejbkfpkphaaRows
import Derived.Deep.Slices
import Derived.ChangeSame
set_option linter.unusedVariables false
set_option linter.unusedSimpArgs false
section
namespace Go.Proofs.Ytbpdejbkfpkphaa.K
open Go.RowKit Go.Proofs.YtbpdejbkfpkphaaW.PrintWords Go.Proofs.YtbpdejbkfpkphaaW.PrintLast Go.Proofs.YtbpdejbkfpkphaaW.PrintMore
attribute [local go_sem] jT jS jX jY jO jP jU jV
def stratumlaw12_SpansSound.j0 : Nat → Int → Int → Int → Bool → Int → List (S60) → Int → List (S60) → Option (Bool)
  | 0, _, _, _, _, _, _, _, _ => none
  | k + 1, x2, x3, x4, x24, x440000, x440001, x441000, x441001 => if x24 = true then ((stratumlaw12_known.f k).bind fun t442 => (some t442)) else ((spans_Sound.f k x440000 x440001 x2 x3).bind fun t443 => ((stratumref12_Sound.f k x440000 x440001 x2 x3).bind fun t444 => (if (t443 == t444) = true then ((spans_Find.f x440000 x440001 x4).bind fun t445 => ((stratumref12_Find.f k x440000 x440001 x4).bind fun t446 => (if t445 = t446 then ((spans_Same.f k x440000 x440001 x441000 x441001).bind fun t447 => ((stratumref07_SameMap.f k x440000 x440001 x441000 x441001).bind fun t448 => (some (t447 == t448)))) else (some false)))) else (some false))))
def stratumlaw12_SpansSound.f (k : Nat) (a0_0 : Int) (l0_1 : List (S60)) (a1_0 : Int) (l1_1 : List (S60)) (a2 : Int) (a3 : Int) (a4 : Int) : Option (Bool) := if (l0_1.length : Int) > 200 then (stratumlaw12_SpansSound.j0 k a2 a3 a4 true a0_0 l0_1 a1_0 l1_1) else (if (l1_1.length : Int) > 200 then (stratumlaw12_SpansSound.j0 k a2 a3 a4 true a0_0 l0_1 a1_0 l1_1) else ((stratumlaw12_known.f k).bind fun t441 => (stratumlaw12_SpansSound.j0 k a2 a3 a4 (!t441) a0_0 l0_1 a1_0 l1_1)))
theorem stratumlaw12_SpansSound.mono_l : ∀ k, (∀ y0 y1 y2 y3 y4 y5 y6 y7, LeO (stratumlaw12_SpansSound.j0 k y0 y1 y2 y3 y4 y5 y6 y7) (stratumlaw12_SpansSound.j0 (k + 1) y0 y1 y2 y3 y4 y5 y6 y7))
  | 0 => fun _ _ _ _ _ _ _ _ r h => by simp [stratumlaw12_SpansSound.j0] at h
  | k + 1 => by
    have ih0 := stratumlaw12_SpansSound.mono_l k
    · intro y0 y1 y2 y3 y4 y5 y6 y7
      unfold stratumlaw12_SpansSound.j0
      repeat' first
      | (with_reducible exact ih0 _ _ _ _ _ _ _ _)
      | (with_reducible exact spans_Same.mono _ _ _ _ _)
      | (with_reducible exact spans_Sound.mono _ _ _ _ _)
      | (with_reducible exact stratumlaw12_known.mono _)
      | (with_reducible exact stratumref07_SameMap.mono _ _ _ _ _)
      | (with_reducible exact stratumref12_Find.mono _ _ _ _)
      | (with_reducible exact stratumref12_Sound.mono _ _ _ _ _)
      | (with_reducible exact LeO.refl _)
      | (with_reducible exact LeO.none _)
      | (with_reducible refine LeO.ite ?_ ?_)
      | (with_reducible refine LeO.bind ?_ (fun _ => ?_))
      | exact ih0 _ _ _ _ _ _ _ _
      | exact spans_Same.mono _ _ _ _ _
      | exact spans_Sound.mono _ _ _ _ _
      | exact stratumlaw12_known.mono _
      | exact stratumref07_SameMap.mono _ _ _ _ _
      | exact stratumref12_Find.mono _ _ _ _
      | exact stratumref12_Sound.mono _ _ _ _ _
      | exact LeO.none _
      | refine LeO.ite ?_ ?_
      | refine LeO.bind ?_ (fun _ => ?_)
theorem stratumlaw12_SpansSound.mono : ∀ a0 a1 a2 a3 a4 a5 a6 k, LeO (stratumlaw12_SpansSound.f k a0 a1 a2 a3 a4 a5 a6) (stratumlaw12_SpansSound.f (k + 1) a0 a1 a2 a3 a4 a5 a6) := by
  intro a0 a1 a2 a3 a4 a5 a6 k
  have ih0 := stratumlaw12_SpansSound.mono_l k
  unfold stratumlaw12_SpansSound.f
  repeat' first
      | (with_reducible exact ih0 _ _ _ _ _ _ _ _)
      | (with_reducible exact spans_Same.mono _ _ _ _ _)
      | (with_reducible exact spans_Sound.mono _ _ _ _ _)
      | (with_reducible exact stratumlaw12_known.mono _)
      | (with_reducible exact stratumref07_SameMap.mono _ _ _ _ _)
      | (with_reducible exact stratumref12_Find.mono _ _ _ _)
      | (with_reducible exact stratumref12_Sound.mono _ _ _ _ _)
      | (with_reducible exact LeO.refl _)
      | (with_reducible exact LeO.none _)
      | (with_reducible refine LeO.ite ?_ ?_)
      | (with_reducible refine LeO.bind ?_ (fun _ => ?_))
      | exact ih0 _ _ _ _ _ _ _ _
      | exact spans_Same.mono _ _ _ _ _
      | exact spans_Sound.mono _ _ _ _ _
      | exact stratumlaw12_known.mono _
      | exact stratumref07_SameMap.mono _ _ _ _ _
      | exact stratumref12_Find.mono _ _ _ _
      | exact stratumref12_Sound.mono _ _ _ _ _
      | exact LeO.none _
      | refine LeO.ite ?_ ?_
      | refine LeO.bind ?_ (fun _ => ?_)
def stratumlaw12_SpansSound.T3 : Bool × List (List Nat × List Nat) := (true, [([], []), ([], []), ([], []), ([0, 1, 2], [0, 1, 2]), ([], []), ([], []), ([], []), ([4, 5, 6, 3], [4, 5, 6]), ([3, 7], [3, 7]), ([8, 7], [8]), ([9], [9]), ([9], [9]), ([10, 11, 9, 9], [9, 10, 11]), ([9], [9]), ([9], [9]), ([13, 14, 12, 9], [9, 13, 14]), ([12, 15, 9], [9, 12, 15]), ([9, 16], [9, 16]), ([17, 15], [17]), ([18], [18]), ([18], [18]), ([19, 20, 18, 18], [18, 19, 20]), ([18], [18]), ([18], [18]), ([22, 23, 21, 18], [18, 22, 23]), ([21, 24, 18], [18, 21, 24]), ([18, 25], [18, 25]), ([26, 24, 0, 1, 2, 3, 4, 5, 6, 7, 8, 9, 10, 11, 12, 13, 14, 15, 16, 17, 18, 19, 20, 21, 22, 23, 24, 25, 26], [26])])
def stratumlaw12_SpansSound.B3 : List Nat := [0, 0, 0, 7, 0, 0, 0, 127, 255, 511, 1023, 1023, 4095, 1023, 1023, 32767, 65535, 131071, 262143, 524287, 524287, 2097151, 524287, 524287, 16777215, 33554431, 67108863, 134217727]
theorem stratumlaw12_SpansSound.tab3 : rtab .any (opsOf Try.f8 3) = stratumlaw12_SpansSound.T3 := by kernel_rfl
theorem stratumlaw12_SpansSound.bits3 : l9 stratumlaw12_SpansSound.T3.2 stratumlaw12_SpansSound.B3 = true := by kernel_rfl
set_option maxHeartbeats 8000000 in
set_option maxRecDepth 100000 in
theorem stratumlaw12_SpansSound.calls (k : Nat) (a0_0 : Int) (A0_1 : Option Addr) (c0_1 : Nat) (l0_1 : List (S60)) (a1_0 : Int) (A1_1 : Option Addr) (c1_1 : Nat) (l1_1 : List (S60)) (a2 : Int) (a3 : Int) (a4 : Int) (r : Bool) (w : World) (hr0_1 : Kd.C k60 w A0_1 l0_1.length l0_1) (hc0_1 : l0_1.length ≤ c0_1) (hr1_1 : Kd.C k60 w A1_1 l1_1.length l1_1) (hc1_1 : l1_1.length ≤ c1_1) (h : stratumlaw12_SpansSound.f k a0_0 l0_1 a1_0 l1_1 a2 a3 a4 = some r) :
    Calls Try.prog 8 #[.agg #[.int .u32 a0_0, .slice A0_1 l0_1.length c0_1], .agg #[.int .u32 a1_0, .slice A1_1 l1_1.length c1_1], .int .i64 a2, .int .i64 a3, .int .i64 a4] w fun e w' => e = .returned (.bool r) ∧ Below w.heap.size w w' := by
  have hu42 := Try.underlying42
  have HR0_1 := iD.mk hr0_1
  have HC0_1 := iD.mk hc0_1
  clear hr0_1 hc0_1
  have HR1_1 := iD.mk hr1_1
  have HC1_1 := iD.mk hc1_1
  clear hr1_1 hc1_1
  have HB := iD.mk (Below.refl w.heap.size w)
  have H : (if (l0_1.length : Int) > 200 then (stratumlaw12_SpansSound.j0 k a2 a3 a4 true a0_0 l0_1 a1_0 l1_1) else (if (l1_1.length : Int) > 200 then (stratumlaw12_SpansSound.j0 k a2 a3 a4 true a0_0 l0_1 a1_0 l1_1) else ((stratumlaw12_known.f k).bind fun t441 => (stratumlaw12_SpansSound.j0 k a2 a3 a4 (!t441) a0_0 l0_1 a1_0 l1_1)))) = some r := h
  clear h
  have HC6 := iD.mk H
  clear H
  go_enter Try.func8, Try.ntmps8
  go_upto_region 1 with (first | ((with_reducible refine jC (N := 5) rfl ?_); (try (refine iZ (by rfl) ?_; dsimp only)); refine jB ?hg (N := 5) ?hd (cs := #[.int .u32 a0_0, .slice A0_1 l0_1.length c0_1]) (t := 42) ?hr ?_; (case hd => rfl); (case hg => rfl); (case hr => first | (go_simp; done) | (go_simp; rfl)); intro gb439 hg w7 hbox hb; have n0_ := iD.mk (iJ hb_ hb); have n1_ := iD.mk (hbox); have n2_ := iD.mk ((by rw [hg]; exact (iK hb_) : w.heap.size ≤ gb439)); have n3_ := iD.mk ((by rw [hg]; exact (iK hb_) : w.heap.size ≤ gb439)); clear HB; have HB := n0_; have BK439 := n1_; have GW439 := n2_; have GE439 := n3_; clear n0_ n1_ n2_ n3_; clear hb hbox hg) | ((with_reducible refine jC (N := 6) rfl ?_); (try (refine iZ (by rfl) ?_; dsimp only)); refine jB ?hg (N := 6) ?hd (cs := #[.int .u32 a1_0, .slice A1_1 l1_1.length c1_1]) (t := 42) ?hr ?_; (case hd => rfl); (case hg => rfl); (case hr => first | (go_simp; done) | (go_simp; rfl)); intro gb440 hg w8 hbox hb; have n0_ := iD.mk (iO (g := gb439) (o := .cells #[.int .u32 a0_0, .slice A0_1 l0_1.length c0_1] 42 (0, 0)) (bk_ BK439.out) hb); have n1_ := iD.mk (iJ (by repeat (first | (with_reducible first | exact HB.out | apply iF | apply iC | apply iG | refine iE ?_ GE439.out) | exact HB.out)) hb); have n2_ := iD.mk (hbox); have n3_ := iD.mk ((by rw [hg]; exact (iK (by repeat (first | (with_reducible first | exact HB.out | apply iF | apply iC | apply iG | refine iE ?_ GE439.out) | exact HB.out))) : w.heap.size ≤ gb440)); have n4_ := iD.mk ((by rw [hg]; exact (iK (by repeat (first | (with_reducible first | exact HB.out | apply iF | apply iC | apply iG | refine iE ?_ GE439.out) | exact HB.out))) : w.heap.size ≤ gb440)); have n5_ := iD.mk ((by rw [hg]; exact Nat.ne_of_lt (jF (g := gb439) (o := .cells #[.int .u32 a0_0, .slice A0_1 l0_1.length c0_1] 42 (0, 0)) (bk_ BK439.out)) : gb439 ≠ gb440)); have n6_ := iD.mk ((by rw [hg]; exact Nat.ne_of_gt (jF (g := gb439) (o := .cells #[.int .u32 a0_0, .slice A0_1 l0_1.length c0_1] 42 (0, 0)) (bk_ BK439.out)) : gb440 ≠ gb439)); clear BK439; clear HB; have BK439 := n0_; have HB := n1_; have BK440 := n2_; have GW440 := n3_; have GE440 := n4_; have NB439_440 := n5_; have NB440_439 := n6_; clear n0_ n1_ n2_ n3_ n4_ n5_ n6_; clear hb hbox hg))
  (try simp only [Act.put, List.setIfInBounds_toArray, List.set_cons_zero, List.set_cons_succ])
  go_cut [24] (fun v24 wc => ∃ (kq : Nat) (x24_5 : Bool), v24 = .bool x24_5 ∧ iD (stratumlaw12_SpansSound.j0 kq a2 a3 a4 x24_5 a0_0 l0_1 a1_0 l1_1 = some r) ∧ iD (kq ≤ k) ∧ iD (wc.heap[gb439]? = some (.cells #[.int .u32 a0_0, (.slice A0_1 l0_1.length c0_1)] 42 (0, 0))) ∧ iD (wc.heap[gb440]? = some (.cells #[.int .u32 a1_0, (.slice A1_1 l1_1.length c1_1)] 42 (0, 0))) ∧ iD (Below w.heap.size w wc))
  case first =>
    have H := HC6.out
    clear HC6
    by_cases c9 : (l0_1.length : Int) > 200
    · rw [if_pos c9] at H
      have c9b0 : decide (200 < (l0_1.length : Int)) = true := decide_eq_true c9
      have c9b1 : decide (200 < l0_1.length) = true := decide_eq_true (by omega)
      clear c9
      (first | rw [c9b0] | (simp only [iV, iW]; rw [c9b0]) | skip)
      have H' := iD.mk H
      clear H
      have hnb10 := NB439_440.out
      have hnc10 := NB440_439.out
      have hcz11_0 : w8.cell? ⟨gb439, 0, none⟩ = some (.int .u32 a0_0) := (iI BK439.out 0).trans rfl
      have hcz11_1 : w8.cell? ⟨gb439, 1, none⟩ = some (.slice A0_1 l0_1.length c0_1) := (iI BK439.out 1).trans rfl
      have hfz11_0 := iH BK439.out 0
      have hfz11_1 := iH BK439.out 1
      go_wp2
      go_meet
      case rel => exact ⟨_, (true), (by first | rfl | (simp; done) | (simp [*]; done)), H', ⟨by first | omega | exact Nat.le_refl _⟩, ⟨bk_ BK439.out⟩, ⟨bk_ BK440.out⟩, ⟨by repeat (first | (with_reducible first | exact HB.out | apply iF | apply iC | apply iG | refine iE ?_ GE439.out | refine iE ?_ GE440.out) | exact HB.out)⟩⟩
    · rw [if_neg c9] at H
      have c9b0 : decide (200 < (l0_1.length : Int)) = false := decide_eq_false c9
      have c9b1 : decide (200 < l0_1.length) = false := decide_eq_false (by omega)
      clear c9
      (first | rw [c9b0] | (simp only [iV, iW]; rw [c9b0]) | skip)
      by_cases c12 : (l1_1.length : Int) > 200
      · rw [if_pos c12] at H
        have c12b0 : decide (200 < (l1_1.length : Int)) = true := decide_eq_true c12
        have c12b1 : decide (200 < l1_1.length) = true := decide_eq_true (by omega)
        clear c12
        have H' := iD.mk H
        clear H
        have hnb13 := NB439_440.out
        have hnc13 := NB440_439.out
        have hcz14_0 : w8.cell? ⟨gb439, 0, none⟩ = some (.int .u32 a0_0) := (iI BK439.out 0).trans rfl
        have hcz14_1 : w8.cell? ⟨gb439, 1, none⟩ = some (.slice A0_1 l0_1.length c0_1) := (iI BK439.out 1).trans rfl
        have hfz14_0 := iH BK439.out 0
        have hfz14_1 := iH BK439.out 1
        have hcz15_0 : w8.cell? ⟨gb440, 0, none⟩ = some (.int .u32 a1_0) := (iI BK440.out 0).trans rfl
        have hcz15_1 : w8.cell? ⟨gb440, 1, none⟩ = some (.slice A1_1 l1_1.length c1_1) := (iI BK440.out 1).trans rfl
        have hfz15_0 := iH BK440.out 0
        have hfz15_1 := iH BK440.out 1
        go_wp2
        go_meet
        case rel => exact ⟨_, (true), (by first | rfl | (simp; done) | (simp [*]; done)), H', ⟨by first | omega | exact Nat.le_refl _⟩, ⟨bk_ BK439.out⟩, ⟨bk_ BK440.out⟩, ⟨by repeat (first | (with_reducible first | exact HB.out | apply iF | apply iC | apply iG | refine iE ?_ GE439.out | refine iE ?_ GE440.out) | exact HB.out)⟩⟩
      · rw [if_neg c12] at H
        have c12b0 : decide (200 < (l1_1.length : Int)) = false := decide_eq_false c12
        have c12b1 : decide (200 < l1_1.length) = false := decide_eq_false (by omega)
        clear c12
        replace H := Option.bind_eq_some_iff.mp H
        obtain ⟨t441, A160, H⟩ := H
        replace H : (stratumlaw12_SpansSound.j0 k a2 a3 a4 (!t441) a0_0 l0_1 a1_0 l1_1) = some r := H
        have A16 := iD.mk A160
        clear A160
        have H' := iD.mk H
        clear H
        have hnb17 := NB439_440.out
        have hnc17 := NB440_439.out
        have hcz18_0 : w8.cell? ⟨gb439, 0, none⟩ = some (.int .u32 a0_0) := (iI BK439.out 0).trans rfl
        have hcz18_1 : w8.cell? ⟨gb439, 1, none⟩ = some (.slice A0_1 l0_1.length c0_1) := (iI BK439.out 1).trans rfl
        have hfz18_0 := iH BK439.out 0
        have hfz18_1 := iH BK439.out 1
        have hcz19_0 : w8.cell? ⟨gb440, 0, none⟩ = some (.int .u32 a1_0) := (iI BK440.out 0).trans rfl
        have hcz19_1 : w8.cell? ⟨gb440, 1, none⟩ = some (.slice A1_1 l1_1.length c1_1) := (iI BK440.out 1).trans rfl
        have hfz19_0 := iH BK440.out 0
        have hfz19_1 := iH BK440.out 1
        go_wp2_with (first | (go_at_call 29; (with_reducible refine (stratumlaw12_known.calls k  t441 _ A16.out).mono ?_); rintro e w20 ⟨rfl, hb⟩; have n0_ := iD.mk (iO (g := gb439) (o := .cells #[.int .u32 a0_0, .slice A0_1 l0_1.length c0_1] 42 (0, 0)) (bk_ BK439.out) hb); have n1_ := iD.mk (iO (g := gb440) (o := .cells #[.int .u32 a1_0, .slice A1_1 l1_1.length c1_1] 42 (0, 0)) (bk_ BK440.out) hb); have n2_ := iD.mk (iJ (by repeat (first | (with_reducible first | exact HB.out | apply iF | apply iC | apply iG | refine iE ?_ GE439.out | refine iE ?_ GE440.out) | exact HB.out)) hb); clear BK439; clear BK440; clear HB; have BK439 := n0_; have BK440 := n1_; have HB := n2_; clear n0_ n1_ n2_; (try clear hb); (try clear hb2); (try clear hk); (try clear hi)))
        go_meet
        case rel => exact ⟨_, (!t441), (by first | rfl | (simp; done) | (simp [*]; done)), H', ⟨by first | omega | exact Nat.le_refl _⟩, ⟨bk_ BK439.out⟩, ⟨bk_ BK440.out⟩, ⟨by repeat (first | (with_reducible first | exact HB.out | apply iF | apply iC | apply iG | refine iE ?_ GE439.out | refine iE ?_ GE440.out) | exact HB.out)⟩⟩
  case rest =>
    clear HC6
    try clear c1
    try clear p2
    try clear c8
    try clear c9
    try clear c9b0
    try clear c9b1
    try clear c10
    try clear c12
    try clear c12b0
    try clear c12b1
    try clear c13
    try clear c17
    try clear hcz11_0
    try clear hcz11_1
    try clear hcz14_0
    try clear hcz14_1
    try clear hcz15_0
    try clear hcz15_1
    try clear hcz18_0
    try clear hcz18_1
    try clear hcz19_0
    try clear hcz19_1
    try clear hfz11_0
    try clear hfz11_1
    try clear hfz14_0
    try clear hfz14_1
    try clear hfz15_0
    try clear hfz15_1
    try clear hfz18_0
    try clear hfz18_1
    try clear hfz19_0
    try clear hfz19_1
    obtain ⟨kq, x24_5, rfl, HA, HJ5, BK439, BK440, HB⟩ := hcut
    cases kq with
    | zero => exact absurd HA.out (by simp [stratumlaw12_SpansSound.j0])
    | succ kj5 =>
      have H := HA.out
      clear HA
      simp only [stratumlaw12_SpansSound.j0] at H
      by_cases c21 : x24_5 = true
      · subst c21
        have H1 : ((stratumlaw12_known.f kj5).bind fun t442 => (some t442)) = some r := by rw [if_pos rfl] at H; exact H
        clear H
        have H := H1
        clear H1
        replace H := Option.bind_eq_some_iff.mp H
        obtain ⟨t442, A220, H⟩ := H
        replace H : (some t442) = some r := H
        have A22 := iD.mk A220
        clear A220
        obtain rfl := Option.some.inj H
        go_wp2_with (first | ((with_reducible refine iU (f := 29) rfl ?_); refine jJ (some 25) rfl rfl Try.func29 (by kernel_rfl) rfl #[] rfl (by (try simp only [List.map_toArray, List.map_cons, List.map_nil]); first | done | rfl | (simp only [List.length_drop, List.length_take]; rfl)) ?_; (with_reducible refine (stratumlaw12_known.calls kj5  t442 _ A22.out).mono ?_); rintro e w23 ⟨rfl, hb⟩; refine ⟨_, rfl, ?_⟩; have n0_ := iD.mk (iO (g := gb439) (o := .cells #[.int .u32 a0_0, .slice A0_1 l0_1.length c0_1] 42 (0, 0)) (bk_ BK439.out) hb); have n1_ := iD.mk (iO (g := gb440) (o := .cells #[.int .u32 a1_0, .slice A1_1 l1_1.length c1_1] 42 (0, 0)) (bk_ BK440.out) hb); have n2_ := iD.mk (iJ (by repeat (first | (with_reducible first | exact HB.out | apply iF | apply iC | apply iG | refine iE ?_ GE439.out | refine iE ?_ GE440.out) | exact HB.out)) hb); clear BK439; clear BK440; clear HB; have BK439 := n0_; have BK440 := n1_; have HB := n2_; clear n0_ n1_ n2_; (try clear hb); (try clear hb2); (try clear hk); (try clear hi)))
        go_ret
        exact ⟨by first | rfl | (simp [iR, iQ] <;> rfl) | (simp [*, iR, iQ] <;> rfl), by repeat (first | (with_reducible first | exact HB.out | apply iF | apply iC | apply iG | refine iE ?_ GE439.out | refine iE ?_ GE440.out) | exact HB.out)⟩
      · replace c21 := Bool.eq_false_iff.mpr c21
        subst c21
        have H1 : ((spans_Sound.f kj5 a0_0 l0_1 a2 a3).bind fun t443 => ((stratumref12_Sound.f kj5 a0_0 l0_1 a2 a3).bind fun t444 => (if (t443 == t444) = true then ((spans_Find.f a0_0 l0_1 a4).bind fun t445 => ((stratumref12_Find.f kj5 a0_0 l0_1 a4).bind fun t446 => (if t445 = t446 then ((spans_Same.f kj5 a0_0 l0_1 a1_0 l1_1).bind fun t447 => ((stratumref07_SameMap.f kj5 a0_0 l0_1 a1_0 l1_1).bind fun t448 => (some (t447 == t448)))) else (some false)))) else (some false)))) = some r := by rw [if_neg (show ¬ (false = true) by decide)] at H; exact H
        clear H
        have H := H1
        clear H1
        replace H := Option.bind_eq_some_iff.mp H
        obtain ⟨t443, A240, H⟩ := H
        replace H : ((stratumref12_Sound.f kj5 a0_0 l0_1 a2 a3).bind fun t444 => (if (t443 == t444) = true then ((spans_Find.f a0_0 l0_1 a4).bind fun t445 => ((stratumref12_Find.f kj5 a0_0 l0_1 a4).bind fun t446 => (if t445 = t446 then ((spans_Same.f kj5 a0_0 l0_1 a1_0 l1_1).bind fun t447 => ((stratumref07_SameMap.f kj5 a0_0 l0_1 a1_0 l1_1).bind fun t448 => (some (t447 == t448)))) else (some false)))) else (some false))) = some r := H
        have A24 := iD.mk A240
        clear A240
        replace H := Option.bind_eq_some_iff.mp H
        obtain ⟨t444, A250, H⟩ := H
        replace H : (if (t443 == t444) = true then ((spans_Find.f a0_0 l0_1 a4).bind fun t445 => ((stratumref12_Find.f kj5 a0_0 l0_1 a4).bind fun t446 => (if t445 = t446 then ((spans_Same.f kj5 a0_0 l0_1 a1_0 l1_1).bind fun t447 => ((stratumref07_SameMap.f kj5 a0_0 l0_1 a1_0 l1_1).bind fun t448 => (some (t447 == t448)))) else (some false)))) else (some false)) = some r := H
        have A25 := iD.mk A250
        clear A250
        by_cases c26 : (t443 == t444) = true
        · rw [if_pos c26] at H
          have c26b0 : (t443 == t444) = true := c26
          (try (have c26b1 : decide (t443 = t444) = true := by simpa using c26))
          (try (have c26b2 : (t443 == t444) = true := by simpa using c26))
          clear c26
          replace H := Option.bind_eq_some_iff.mp H
          obtain ⟨t445, A270, H⟩ := H
          replace H : ((stratumref12_Find.f kj5 a0_0 l0_1 a4).bind fun t446 => (if t445 = t446 then ((spans_Same.f kj5 a0_0 l0_1 a1_0 l1_1).bind fun t447 => ((stratumref07_SameMap.f kj5 a0_0 l0_1 a1_0 l1_1).bind fun t448 => (some (t447 == t448)))) else (some false))) = some r := H
          have A27 := iD.mk A270
          clear A270
          replace H := Option.bind_eq_some_iff.mp H
          obtain ⟨t446, A280, H⟩ := H
          replace H : (if t445 = t446 then ((spans_Same.f kj5 a0_0 l0_1 a1_0 l1_1).bind fun t447 => ((stratumref07_SameMap.f kj5 a0_0 l0_1 a1_0 l1_1).bind fun t448 => (some (t447 == t448)))) else (some false)) = some r := H
          have A28 := iD.mk A280
          clear A280
          by_cases c29 : t445 = t446
          · rw [if_pos c29] at H
            have c29b0 : (t445 == t446) = true := beq_iff_eq.mpr c29
            have c29b1 : (t445 != t446) = false := bne_eq_false_iff_eq.mpr c29
            clear c29
            replace H := Option.bind_eq_some_iff.mp H
            obtain ⟨t447, A300, H⟩ := H
            replace H : ((stratumref07_SameMap.f kj5 a0_0 l0_1 a1_0 l1_1).bind fun t448 => (some (t447 == t448))) = some r := H
            have A30 := iD.mk A300
            clear A300
            replace H := Option.bind_eq_some_iff.mp H
            obtain ⟨t448, A310, H⟩ := H
            replace H : (some (t447 == t448)) = some r := H
            have A31 := iD.mk A310
            clear A310
            obtain rfl := Option.some.inj H
            try go_wp2
            have n0_ := iD.mk (iP BK439.out)
            have n1_ := iD.mk (iP BK440.out)
            have n2_ := iD.mk (iG HB.out)
            clear BK439
            clear BK440
            clear HB
            have BK439 := n0_
            have BK440 := n1_
            have HB := n2_
            clear n0_ n1_ n2_
            refine l7 (n := 28) (S := fun w' => w'.cell? ⟨gb439, 0, none⟩ = some (.int .u32 a0_0) ∧ w'.cell? ⟨gb439, 1, none⟩ = some (.slice A0_1 l0_1.length c0_1) ∧ w'.cell? ⟨gb440, 0, none⟩ = some (.int .u32 a1_0) ∧ w'.cell? ⟨gb440, 1, none⟩ = some (.slice A1_1 l1_1.length c1_1)) (ds := []) #[false, false, false, false, false, false, false, false, false, false, false, false, false, false, false, false, false, false, false, false, false, false, false, false, false, false, false, false] (by kernel_rfl) rfl rfl ⟨(iI BK439.out 0).trans rfl, (iI BK439.out 1).trans rfl, (iI BK440.out 0).trans rfl, (iI BK440.out 1).trans rfl⟩ (fun hHeld => ?_); refine kF stratumlaw12_SpansSound.tab3 stratumlaw12_SpansSound.bits3 (fun HT_ HW_ => ?_)
            generalize wc.drew = w32 at BK439 BK440 HB hHeld ⊢
            refine jD (i := 1) (N := some 27) (v := ?_) (a' := ?_) #[false, true, false, false, false, false, false, false, false, false, false, false, false, false, false, false, false, false, false, false, false, false, false, false, false, false, false, false] rfl rfl (iY HT_.out (by kernel_rfl)) (fun _ _ _ h => h) (Or.inl ⟨by rfl, ?_⟩) ?_ ?_
            rotate_left
            · intro w'
              go_simp
              with_reducible rfl
            rotate_left
            · simp only [Act.put, List.setIfInBounds_toArray, List.set_cons_zero, List.set_cons_succ, iV, iW]
              rfl
            refine jD (i := 2) (N := some 28) (v := ?_) (a' := ?_) #[false, true, true, false, false, false, false, false, false, false, false, false, false, false, false, false, false, false, false, false, false, false, false, false, false, false, false, false] rfl rfl (iY HT_.out (by kernel_rfl)) (fun _ _ _ h => h) (Or.inl ⟨by rfl, ?_⟩) ?_ ?_
            rotate_left
            · intro w'
              go_simp
              with_reducible rfl
            rotate_left
            · simp only [Act.put, List.setIfInBounds_toArray, List.set_cons_zero, List.set_cons_succ, iV, iW]
              rfl
            refine jD (i := 5) (N := some 31) (v := ?_) (a' := ?_) #[false, true, true, false, false, true, false, false, false, false, false, false, false, false, false, false, false, false, false, false, false, false, false, false, false, false, false, false] rfl rfl (iY HT_.out (by kernel_rfl)) (fun _ _ _ h => h) (Or.inl ⟨by rfl, ?_⟩) ?_ ?_
            rotate_left
            · intro w'
              go_simp
              with_reducible rfl
            rotate_left
            · simp only [Act.put, List.setIfInBounds_toArray, List.set_cons_zero, List.set_cons_succ, iV, iW]
              rfl
            refine jD (i := 6) (N := some 32) (v := ?_) (a' := ?_) #[false, true, true, false, false, true, true, false, false, false, false, false, false, false, false, false, false, false, false, false, false, false, false, false, false, false, false, false] rfl rfl (iY HT_.out (by kernel_rfl)) (fun _ _ _ h => h) (Or.inl ⟨by rfl, ?_⟩) ?_ ?_
            rotate_left
            · intro w'
              go_simp
              with_reducible rfl
            rotate_left
            · simp only [Act.put, List.setIfInBounds_toArray, List.set_cons_zero, List.set_cons_succ, iV, iW]
              rfl
            refine take_ (i := 0) (N := some 26) (v := ?_) (a' := ?_) #[true, true, true, false, false, true, true, false, false, false, false, false, false, false, false, false, false, false, false, false, false, false, false, false, false, false, false, false] rfl rfl (jL HT_.out HW_.out (by kernel_rfl)) (fun _ _ _ h => h) (Or.inl ⟨by rfl, ?_⟩) hHeld ?_ ?_
            rotate_left
            · rintro w' ⟨s0, s1, s2, s3⟩
              go_simp
              with_reducible rfl
            rotate_left
            · simp only [Act.put, List.setIfInBounds_toArray, List.set_cons_zero, List.set_cons_succ, iV, iW]
              rfl
            refine take_ (i := 4) (N := some 30) (v := ?_) (a' := ?_) #[true, true, true, false, true, true, true, false, false, false, false, false, false, false, false, false, false, false, false, false, false, false, false, false, false, false, false, false] rfl rfl (jL HT_.out HW_.out (by kernel_rfl)) (fun _ _ _ h => h) (Or.inl ⟨by rfl, ?_⟩) hHeld ?_ ?_
            rotate_left
            · rintro w' ⟨s0, s1, s2, s3⟩
              go_simp
              with_reducible rfl
            rotate_left
            · simp only [Act.put, List.setIfInBounds_toArray, List.set_cons_zero, List.set_cons_succ, iV, iW]
              rfl
            refine one_ (i := 3) (N := some 29) #[true, true, true, true, true, true, true, false, false, false, false, false, false, false, false, false, false, false, false, false, false, false, false, false, false, false, false, false] rfl rfl (jZ HT_.out (by kernel_rfl)) (by decide) (fun K hK => ?_)
            refine kV Try.func33 (by kernel_rfl) rfl #[.agg #[.int .u32 a0_0, .slice A0_1 l0_1.length c0_1], .int .i64 a2, .int .i64 a3] (by rfl) rfl rfl (by (try simp only [List.map_toArray, List.map_cons, List.map_nil]); first | done | rfl | (simp only [List.length_drop, List.length_take]; rfl)) ?_
            with_reducible refine (spans_Sound.calls kj5 a0_0 _ _ l0_1 a2 a3 t443 _ ?side1 ?side2 A24.out).mono ?_
            (case side1 => repeat (first | exact (Kd.C_below HR0_1.out HB.out) | (with_reducible refine Kd.C_alloc ?_ _) | (with_reducible refine Kd.C_drewN ?_ _) | (with_reducible refine Kd.C_drew ?_)))
            (case side2 => exact HC0_1.out)
            rintro e w33 ⟨rfl, hb⟩
            refine ⟨_, rfl, ?_⟩
            have n0_ := iD.mk (iO (g := gb439) (o := .cells #[.int .u32 a0_0, .slice A0_1 l0_1.length c0_1] 42 (0, 0)) (bk_ BK439.out) hb)
            have n1_ := iD.mk (iO (g := gb440) (o := .cells #[.int .u32 a1_0, .slice A1_1 l1_1.length c1_1] 42 (0, 0)) (bk_ BK440.out) hb)
            have n2_ := iD.mk (iJ (by repeat (first | (with_reducible first | exact HB.out | apply iF | apply iC | apply iG | refine iE ?_ GE439.out | refine iE ?_ GE440.out) | exact HB.out)) hb)
            clear BK439
            clear BK440
            clear HB
            have BK439 := n0_
            have BK440 := n1_
            have HB := n2_
            clear n0_ n1_ n2_
            (try clear hb)
            (try clear hb2)
            (try clear hk)
            (try clear hi)
            refine hK.out _ _ ⟨(iI BK439.out 0).trans rfl, (iI BK439.out 1).trans rfl, (iI BK440.out 0).trans rfl, (iI BK440.out 1).trans rfl⟩ (fun hHeld => ?_)
            clear hK K
            refine kK (a' := ?_) ?_ ?_
            rotate_left
            · show Act.put _ (some 29) _ = _
              simp only [Act.put, List.setIfInBounds_toArray, List.set_cons_zero, List.set_cons_succ, iV, iW]
              rfl
            refine one_ (i := 7) (N := some 33) #[true, true, true, true, true, true, true, true, false, false, false, false, false, false, false, false, false, false, false, false, false, false, false, false, false, false, false, false] rfl rfl (jZ HT_.out (by kernel_rfl)) (by decide) (fun K hK => ?_)
            refine kV Try.func34 (by kernel_rfl) rfl #[.agg #[.int .u32 a0_0, .slice A0_1 l0_1.length c0_1], .int .i64 a2, .int .i64 a3] (by rfl) rfl rfl (by (try simp only [List.map_toArray, List.map_cons, List.map_nil]); first | done | rfl | (simp only [List.length_drop, List.length_take]; rfl)) ?_
            with_reducible refine (stratumref12_Sound.calls kj5 a0_0 _ _ l0_1 a2 a3 t444 _ ?side1 ?side2 A25.out).mono ?_
            (case side1 => repeat (first | exact (Kd.C_below HR0_1.out HB.out) | (with_reducible refine Kd.C_alloc ?_ _) | (with_reducible refine Kd.C_drewN ?_ _) | (with_reducible refine Kd.C_drew ?_)))
            (case side2 => exact HC0_1.out)
            rintro e w34 ⟨rfl, hb⟩
            refine ⟨_, rfl, ?_⟩
            have n0_ := iD.mk (iO (g := gb439) (o := .cells #[.int .u32 a0_0, .slice A0_1 l0_1.length c0_1] 42 (0, 0)) (bk_ BK439.out) hb)
            have n1_ := iD.mk (iO (g := gb440) (o := .cells #[.int .u32 a1_0, .slice A1_1 l1_1.length c1_1] 42 (0, 0)) (bk_ BK440.out) hb)
            have n2_ := iD.mk (iJ (by repeat (first | (with_reducible first | exact HB.out | apply iF | apply iC | apply iG | refine iE ?_ GE439.out | refine iE ?_ GE440.out) | exact HB.out)) hb)
            clear BK439
            clear BK440
            clear HB
            have BK439 := n0_
            have BK440 := n1_
            have HB := n2_
            clear n0_ n1_ n2_
            (try clear hb)
            (try clear hb2)
            (try clear hk)
            (try clear hi)
            refine hK.out _ _ ⟨(iI BK439.out 0).trans rfl, (iI BK439.out 1).trans rfl, (iI BK440.out 0).trans rfl, (iI BK440.out 1).trans rfl⟩ (fun hHeld => ?_)
            clear hK K
            refine kK (a' := ?_) ?_ ?_
            rotate_left
            · show Act.put _ (some 33) _ = _
              simp only [Act.put, List.setIfInBounds_toArray, List.set_cons_zero, List.set_cons_succ, iV, iW]
              rfl
            refine jD (i := 8) (N := some 34) (v := ?_) (a' := ?_) #[true, true, true, true, true, true, true, true, true, false, false, false, false, false, false, false, false, false, false, false, false, false, false, false, false, false, false, false] rfl rfl (iY HT_.out (by kernel_rfl)) (fun _ _ _ h => h) (Or.inl ⟨by rfl, ?_⟩) ?_ ?_
            rotate_left
            · intro w'
              go_simp
              with_reducible rfl
            rotate_left
            · simp only [Act.put, List.setIfInBounds_toArray, List.set_cons_zero, List.set_cons_succ, iV, iW]
              rfl
            refine jD (i := 9) (N := some 35) (v := ?_) (a' := ?_) #[true, true, true, true, true, true, true, true, true, true, false, false, false, false, false, false, false, false, false, false, false, false, false, false, false, false, false, false] rfl rfl (iY HT_.out (by kernel_rfl)) (fun _ _ _ h => h) (Or.inl ⟨by rfl, ?_⟩) ?_ ?_
            rotate_left
            · intro w'
              go_simp
              with_reducible rfl
            rotate_left
            · simp only [Act.put, List.setIfInBounds_toArray, List.set_cons_zero, List.set_cons_succ, iV, iW]
              rfl
            refine jD (i := 11) (N := some 37) (v := ?_) (a' := ?_) #[true, true, true, true, true, true, true, true, true, true, false, true, false, false, false, false, false, false, false, false, false, false, false, false, false, false, false, false] rfl rfl (iY HT_.out (by kernel_rfl)) (fun _ _ _ h => h) (Or.inl ⟨by rfl, ?_⟩) ?_ ?_
            rotate_left
            · intro w'
              go_simp
              with_reducible rfl
            rotate_left
            · simp only [Act.put, List.setIfInBounds_toArray, List.set_cons_zero, List.set_cons_succ, iV, iW]
              rfl
            refine jD (i := 14) (N := some 40) (v := ?_) (a' := ?_) #[true, true, true, true, true, true, true, true, true, true, false, true, false, false, true, false, false, false, false, false, false, false, false, false, false, false, false, false] rfl rfl (iY HT_.out (by kernel_rfl)) (fun _ _ _ h => h) (Or.inl ⟨by rfl, ?_⟩) ?_ ?_
            rotate_left
            · intro w'
              go_simp
              with_reducible rfl
            rotate_left
            · simp only [Act.put, List.setIfInBounds_toArray, List.set_cons_zero, List.set_cons_succ, iV, iW]
              rfl
            refine take_ (i := 10) (N := some 36) (v := ?_) (a' := ?_) #[true, true, true, true, true, true, true, true, true, true, true, true, false, false, true, false, false, false, false, false, false, false, false, false, false, false, false, false] rfl rfl (jL HT_.out HW_.out (by kernel_rfl)) (fun _ _ _ h => h) (Or.inl ⟨by rfl, ?_⟩) hHeld ?_ ?_
            rotate_left
            · rintro w' ⟨s0, s1, s2, s3⟩
              go_simp
              with_reducible rfl
            rotate_left
            · simp only [Act.put, List.setIfInBounds_toArray, List.set_cons_zero, List.set_cons_succ, iV, iW]
              rfl
            refine take_ (i := 13) (N := some 39) (v := ?_) (a' := ?_) #[true, true, true, true, true, true, true, true, true, true, true, true, false, true, true, false, false, false, false, false, false, false, false, false, false, false, false, false] rfl rfl (jL HT_.out HW_.out (by kernel_rfl)) (fun _ _ _ h => h) (Or.inl ⟨by rfl, ?_⟩) hHeld ?_ ?_
            rotate_left
            · rintro w' ⟨s0, s1, s2, s3⟩
              go_simp
              with_reducible rfl
            rotate_left
            · simp only [Act.put, List.setIfInBounds_toArray, List.set_cons_zero, List.set_cons_succ, iV, iW]
              rfl
            refine one_ (i := 12) (N := some 38) #[true, true, true, true, true, true, true, true, true, true, true, true, true, true, true, false, false, false, false, false, false, false, false, false, false, false, false, false] rfl rfl (jZ HT_.out (by kernel_rfl)) (by decide) (fun K hK => ?_)
            refine kV Try.func35 (by kernel_rfl) rfl #[.agg #[.int .u32 a0_0, .slice A0_1 l0_1.length c0_1], .int .i64 a4] (by rfl) rfl rfl (by (try simp only [List.map_toArray, List.map_cons, List.map_nil]); first | done | rfl | (simp only [List.length_drop, List.length_take]; rfl)) ?_
            with_reducible refine (spans_Find.calls a0_0 _ _ l0_1 a4 t445 _ ?side1 ?side2 A27.out).mono ?_
            (case side1 => repeat (first | exact (Kd.C_below HR0_1.out HB.out) | (with_reducible refine Kd.C_alloc ?_ _) | (with_reducible refine Kd.C_drewN ?_ _) | (with_reducible refine Kd.C_drew ?_)))
            (case side2 => exact HC0_1.out)
            rintro e w35 ⟨rfl, hb⟩
            refine ⟨_, rfl, ?_⟩
            have n0_ := iD.mk (iO (g := gb439) (o := .cells #[.int .u32 a0_0, .slice A0_1 l0_1.length c0_1] 42 (0, 0)) (bk_ BK439.out) hb)
            have n1_ := iD.mk (iO (g := gb440) (o := .cells #[.int .u32 a1_0, .slice A1_1 l1_1.length c1_1] 42 (0, 0)) (bk_ BK440.out) hb)
            have n2_ := iD.mk (iJ (by repeat (first | (with_reducible first | exact HB.out | apply iF | apply iC | apply iG | refine iE ?_ GE439.out | refine iE ?_ GE440.out) | exact HB.out)) hb)
            clear BK439
            clear BK440
            clear HB
            have BK439 := n0_
            have BK440 := n1_
            have HB := n2_
            clear n0_ n1_ n2_
            (try clear hb)
            (try clear hb2)
            (try clear hk)
            (try clear hi)
            refine hK.out _ _ ⟨(iI BK439.out 0).trans rfl, (iI BK439.out 1).trans rfl, (iI BK440.out 0).trans rfl, (iI BK440.out 1).trans rfl⟩ (fun hHeld => ?_)
            clear hK K
            refine kK (a' := ?_) ?_ ?_
            rotate_left
            · show Act.put _ (some 38) _ = _
              simp only [Act.put, List.setIfInBounds_toArray, List.set_cons_zero, List.set_cons_succ, iV, iW]
              rfl
            refine one_ (i := 15) (N := some 41) #[true, true, true, true, true, true, true, true, true, true, true, true, true, true, true, true, false, false, false, false, false, false, false, false, false, false, false, false] rfl rfl (jZ HT_.out (by kernel_rfl)) (by decide) (fun K hK => ?_)
            refine kV Try.func36 (by kernel_rfl) rfl #[.agg #[.int .u32 a0_0, .slice A0_1 l0_1.length c0_1], .int .i64 a4] (by rfl) rfl rfl (by (try simp only [List.map_toArray, List.map_cons, List.map_nil]); first | done | rfl | (simp only [List.length_drop, List.length_take]; rfl)) ?_
            with_reducible refine (stratumref12_Find.calls kj5 a0_0 _ _ l0_1 a4 t446 _ ?side1 ?side2 A28.out).mono ?_
            (case side1 => repeat (first | exact (Kd.C_below HR0_1.out HB.out) | (with_reducible refine Kd.C_alloc ?_ _) | (with_reducible refine Kd.C_drewN ?_ _) | (with_reducible refine Kd.C_drew ?_)))
            (case side2 => exact HC0_1.out)
            rintro e w36 ⟨rfl, hb⟩
            refine ⟨_, rfl, ?_⟩
            have n0_ := iD.mk (iO (g := gb439) (o := .cells #[.int .u32 a0_0, .slice A0_1 l0_1.length c0_1] 42 (0, 0)) (bk_ BK439.out) hb)
            have n1_ := iD.mk (iO (g := gb440) (o := .cells #[.int .u32 a1_0, .slice A1_1 l1_1.length c1_1] 42 (0, 0)) (bk_ BK440.out) hb)
            have n2_ := iD.mk (iJ (by repeat (first | (with_reducible first | exact HB.out | apply iF | apply iC | apply iG | refine iE ?_ GE439.out | refine iE ?_ GE440.out) | exact HB.out)) hb)
            clear BK439
            clear BK440
            clear HB
            have BK439 := n0_
            have BK440 := n1_
            have HB := n2_
            clear n0_ n1_ n2_
            (try clear hb)
            (try clear hb2)
            (try clear hk)
            (try clear hi)
            refine hK.out _ _ ⟨(iI BK439.out 0).trans rfl, (iI BK439.out 1).trans rfl, (iI BK440.out 0).trans rfl, (iI BK440.out 1).trans rfl⟩ (fun hHeld => ?_)
            clear hK K
            refine kK (a' := ?_) ?_ ?_
            rotate_left
            · show Act.put _ (some 41) _ = _
              simp only [Act.put, List.setIfInBounds_toArray, List.set_cons_zero, List.set_cons_succ, iV, iW]
              rfl
            refine jD (i := 16) (N := some 42) (v := ?_) (a' := ?_) #[true, true, true, true, true, true, true, true, true, true, true, true, true, true, true, true, true, false, false, false, false, false, false, false, false, false, false, false] rfl rfl (iY HT_.out (by kernel_rfl)) (fun _ _ _ h => h) (Or.inl ⟨by rfl, ?_⟩) ?_ ?_
            rotate_left
            · intro w'
              go_simp
              with_reducible rfl
            rotate_left
            · simp only [Act.put, List.setIfInBounds_toArray, List.set_cons_zero, List.set_cons_succ, iV, iW]
              rfl
            refine jD (i := 17) (N := some 43) (v := ?_) (a' := ?_) #[true, true, true, true, true, true, true, true, true, true, true, true, true, true, true, true, true, true, false, false, false, false, false, false, false, false, false, false] rfl rfl (iY HT_.out (by kernel_rfl)) (fun _ _ _ h => h) (Or.inl ⟨by rfl, ?_⟩) ?_ ?_
            rotate_left
            · intro w'
              go_simp
              with_reducible rfl
            rotate_left
            · simp only [Act.put, List.setIfInBounds_toArray, List.set_cons_zero, List.set_cons_succ, iV, iW]
              rfl
            refine jD (i := 18) (N := some 44) (v := ?_) (a' := ?_) #[true, true, true, true, true, true, true, true, true, true, true, true, true, true, true, true, true, true, true, false, false, false, false, false, false, false, false, false] rfl rfl (iY HT_.out (by kernel_rfl)) (fun _ _ _ h => h) (Or.inl ⟨by rfl, ?_⟩) ?_ ?_
            rotate_left
            · intro w'
              go_simp
              with_reducible rfl
            rotate_left
            · simp only [Act.put, List.setIfInBounds_toArray, List.set_cons_zero, List.set_cons_succ, iV, iW]
              rfl
            refine take_ (i := 19) (N := some 45) (v := ?_) (a' := ?_) #[true, true, true, true, true, true, true, true, true, true, true, true, true, true, true, true, true, true, true, true, false, false, false, false, false, false, false, false] rfl rfl (jL HT_.out HW_.out (by kernel_rfl)) (fun _ _ _ h => h) (Or.inl ⟨by rfl, ?_⟩) hHeld ?_ ?_
            rotate_left
            · rintro w' ⟨s0, s1, s2, s3⟩
              go_simp
              with_reducible rfl
            rotate_left
            · simp only [Act.put, List.setIfInBounds_toArray, List.set_cons_zero, List.set_cons_succ, iV, iW]
              rfl
            refine take_ (i := 20) (N := some 46) (v := ?_) (a' := ?_) #[true, true, true, true, true, true, true, true, true, true, true, true, true, true, true, true, true, true, true, true, true, false, false, false, false, false, false, false] rfl rfl (jL HT_.out HW_.out (by kernel_rfl)) (fun _ _ _ h => h) (Or.inl ⟨by rfl, ?_⟩) hHeld ?_ ?_
            rotate_left
            · rintro w' ⟨s0, s1, s2, s3⟩
              go_simp
              with_reducible rfl
            rotate_left
            · simp only [Act.put, List.setIfInBounds_toArray, List.set_cons_zero, List.set_cons_succ, iV, iW]
              rfl
            refine take_ (i := 22) (N := some 48) (v := ?_) (a' := ?_) #[true, true, true, true, true, true, true, true, true, true, true, true, true, true, true, true, true, true, true, true, true, false, true, false, false, false, false, false] rfl rfl (jL HT_.out HW_.out (by kernel_rfl)) (fun _ _ _ h => h) (Or.inl ⟨by rfl, ?_⟩) hHeld ?_ ?_
            rotate_left
            · rintro w' ⟨s0, s1, s2, s3⟩
              go_simp
              with_reducible rfl
            rotate_left
            · simp only [Act.put, List.setIfInBounds_toArray, List.set_cons_zero, List.set_cons_succ, iV, iW]
              rfl
            refine take_ (i := 23) (N := some 49) (v := ?_) (a' := ?_) #[true, true, true, true, true, true, true, true, true, true, true, true, true, true, true, true, true, true, true, true, true, false, true, true, false, false, false, false] rfl rfl (jL HT_.out HW_.out (by kernel_rfl)) (fun _ _ _ h => h) (Or.inl ⟨by rfl, ?_⟩) hHeld ?_ ?_
            rotate_left
            · rintro w' ⟨s0, s1, s2, s3⟩
              go_simp
              with_reducible rfl
            rotate_left
            · simp only [Act.put, List.setIfInBounds_toArray, List.set_cons_zero, List.set_cons_succ, iV, iW]
              rfl
            refine one_ (i := 21) (N := some 47) #[true, true, true, true, true, true, true, true, true, true, true, true, true, true, true, true, true, true, true, true, true, true, true, true, false, false, false, false] rfl rfl (jZ HT_.out (by kernel_rfl)) (by decide) (fun K hK => ?_)
            refine kV Try.func31 (by kernel_rfl) rfl #[.agg #[.int .u32 a0_0, .slice A0_1 l0_1.length c0_1], .agg #[.int .u32 a1_0, .slice A1_1 l1_1.length c1_1]] (by rfl) rfl rfl (by (try simp only [List.map_toArray, List.map_cons, List.map_nil]); first | done | rfl | (simp only [List.length_drop, List.length_take]; rfl)) ?_
            with_reducible refine (spans_Same.calls kj5 a0_0 _ _ l0_1 a1_0 _ _ l1_1 t447 _ ?side1 ?side2 ?side3 ?side4 A30.out).mono ?_
            (case side1 => repeat (first | exact (Kd.C_below HR0_1.out HB.out) | (with_reducible refine Kd.C_alloc ?_ _) | (with_reducible refine Kd.C_drewN ?_ _) | (with_reducible refine Kd.C_drew ?_)))
            (case side2 => exact HC0_1.out)
            (case side3 => repeat (first | exact (Kd.C_below HR1_1.out HB.out) | (with_reducible refine Kd.C_alloc ?_ _) | (with_reducible refine Kd.C_drewN ?_ _) | (with_reducible refine Kd.C_drew ?_)))
            (case side4 => exact HC1_1.out)
            rintro e w37 ⟨rfl, hb⟩
            refine ⟨_, rfl, ?_⟩
            have n0_ := iD.mk (iO (g := gb439) (o := .cells #[.int .u32 a0_0, .slice A0_1 l0_1.length c0_1] 42 (0, 0)) (bk_ BK439.out) hb)
            have n1_ := iD.mk (iO (g := gb440) (o := .cells #[.int .u32 a1_0, .slice A1_1 l1_1.length c1_1] 42 (0, 0)) (bk_ BK440.out) hb)
            have n2_ := iD.mk (iJ (by repeat (first | (with_reducible first | exact HB.out | apply iF | apply iC | apply iG | refine iE ?_ GE439.out | refine iE ?_ GE440.out) | exact HB.out)) hb)
            clear BK439
            clear BK440
            clear HB
            have BK439 := n0_
            have BK440 := n1_
            have HB := n2_
            clear n0_ n1_ n2_
            (try clear hb)
            (try clear hb2)
            (try clear hk)
            (try clear hi)
            refine hK.out _ _ ⟨(iI BK439.out 0).trans rfl, (iI BK439.out 1).trans rfl, (iI BK440.out 0).trans rfl, (iI BK440.out 1).trans rfl⟩ (fun hHeld => ?_)
            clear hK K
            refine kK (a' := ?_) ?_ ?_
            rotate_left
            · show Act.put _ (some 47) _ = _
              simp only [Act.put, List.setIfInBounds_toArray, List.set_cons_zero, List.set_cons_succ, iV, iW]
              rfl
            refine one_ (i := 24) (N := some 50) #[true, true, true, true, true, true, true, true, true, true, true, true, true, true, true, true, true, true, true, true, true, true, true, true, true, false, false, false] rfl rfl (jZ HT_.out (by kernel_rfl)) (by decide) (fun K hK => ?_)
            refine kV Try.func37 (by kernel_rfl) rfl #[.agg #[.int .u32 a0_0, .slice A0_1 l0_1.length c0_1], .agg #[.int .u32 a1_0, .slice A1_1 l1_1.length c1_1]] (by rfl) rfl rfl (by (try simp only [List.map_toArray, List.map_cons, List.map_nil]); first | done | rfl | (simp only [List.length_drop, List.length_take]; rfl)) ?_
            with_reducible refine (stratumref07_SameMap.calls kj5 a0_0 _ _ l0_1 a1_0 _ _ l1_1 t448 _ ?side1 ?side2 ?side3 ?side4 A31.out).mono ?_
            (case side1 => repeat (first | exact (Kd.C_below HR0_1.out HB.out) | (with_reducible refine Kd.C_alloc ?_ _) | (with_reducible refine Kd.C_drewN ?_ _) | (with_reducible refine Kd.C_drew ?_)))
            (case side2 => exact HC0_1.out)
            (case side3 => repeat (first | exact (Kd.C_below HR1_1.out HB.out) | (with_reducible refine Kd.C_alloc ?_ _) | (with_reducible refine Kd.C_drewN ?_ _) | (with_reducible refine Kd.C_drew ?_)))
            (case side4 => exact HC1_1.out)
            rintro e w38 ⟨rfl, hb⟩
            refine ⟨_, rfl, ?_⟩
            have n0_ := iD.mk (iO (g := gb439) (o := .cells #[.int .u32 a0_0, .slice A0_1 l0_1.length c0_1] 42 (0, 0)) (bk_ BK439.out) hb)
            have n1_ := iD.mk (iO (g := gb440) (o := .cells #[.int .u32 a1_0, .slice A1_1 l1_1.length c1_1] 42 (0, 0)) (bk_ BK440.out) hb)
            have n2_ := iD.mk (iJ (by repeat (first | (with_reducible first | exact HB.out | apply iF | apply iC | apply iG | refine iE ?_ GE439.out | refine iE ?_ GE440.out) | exact HB.out)) hb)
            clear BK439
            clear BK440
            clear HB
            have BK439 := n0_
            have BK440 := n1_
            have HB := n2_
            clear n0_ n1_ n2_
            (try clear hb)
            (try clear hb2)
            (try clear hk)
            (try clear hi)
            refine hK.out _ _ ⟨(iI BK439.out 0).trans rfl, (iI BK439.out 1).trans rfl, (iI BK440.out 0).trans rfl, (iI BK440.out 1).trans rfl⟩ (fun hHeld => ?_)
            clear hK K
            refine kK (a' := ?_) ?_ ?_
            rotate_left
            · show Act.put _ (some 50) _ = _
              simp only [Act.put, List.setIfInBounds_toArray, List.set_cons_zero, List.set_cons_succ, iV, iW]
              rfl
            refine jD (i := 25) (N := some 51) (v := ?_) (a' := ?_) #[true, true, true, true, true, true, true, true, true, true, true, true, true, true, true, true, true, true, true, true, true, true, true, true, true, true, false, false] rfl rfl (iY HT_.out (by kernel_rfl)) (fun _ _ _ h => h) (Or.inl ⟨by rfl, ?_⟩) ?_ ?_
            rotate_left
            · intro w'
              go_simp
              with_reducible rfl
            rotate_left
            · simp only [Act.put, List.setIfInBounds_toArray, List.set_cons_zero, List.set_cons_succ, iV, iW]
              rfl
            refine jD (i := 26) (N := some 52) (v := ?_) (a' := ?_) #[true, true, true, true, true, true, true, true, true, true, true, true, true, true, true, true, true, true, true, true, true, true, true, true, true, true, true, false] rfl rfl (iY HT_.out (by kernel_rfl)) (fun _ _ _ h => h) (Or.inl ⟨by rfl, ?_⟩) ?_ ?_
            rotate_left
            · intro w'
              go_simp
              with_reducible rfl
            rotate_left
            · simp only [Act.put, List.setIfInBounds_toArray, List.set_cons_zero, List.set_cons_succ, iV, iW]
              rfl
            refine jD (i := 27) (N := some 10) (v := ?_) (a' := ?_) #[true, true, true, true, true, true, true, true, true, true, true, true, true, true, true, true, true, true, true, true, true, true, true, true, true, true, true, true] rfl rfl (iY HT_.out (by kernel_rfl)) (fun _ _ _ h => h) (Or.inl ⟨by rfl, ?_⟩) ?_ ?_
            rotate_left
            · intro w'
              go_simp
              with_reducible rfl
            rotate_left
            · simp only [Act.put, List.setIfInBounds_toArray, List.set_cons_zero, List.set_cons_succ, iV, iW]
              rfl
            refine mF (kR HT_.out (by kernel_rfl)) ?_
            try go_wp2
            go_ret
            exact ⟨by first | rfl | (simp [iR, iQ] <;> rfl) | (simp [*, iR, iQ] <;> rfl), by repeat (first | (with_reducible first | exact HB.out | apply iF | apply iC | apply iG | refine iE ?_ GE439.out | refine iE ?_ GE440.out) | exact HB.out)⟩
          · rw [if_neg c29] at H
            have c29b0 : (t445 == t446) = false := beq_eq_false_iff_ne.mpr c29
            have c29b1 : (t445 != t446) = true := bne_iff_ne.mpr c29
            obtain rfl := Option.some.inj H
            try go_wp2
            have n0_ := iD.mk (iP BK439.out)
            have n1_ := iD.mk (iP BK440.out)
            have n2_ := iD.mk (iG HB.out)
            clear BK439
            clear BK440
            clear HB
            have BK439 := n0_
            have BK440 := n1_
            have HB := n2_
            clear n0_ n1_ n2_
            refine l7 (n := 28) (S := fun w' => w'.cell? ⟨gb439, 0, none⟩ = some (.int .u32 a0_0) ∧ w'.cell? ⟨gb439, 1, none⟩ = some (.slice A0_1 l0_1.length c0_1)) (ds := []) #[false, false, false, false, false, false, false, false, false, false, false, false, false, false, false, false, false, false, false, false, false, false, false, false, false, false, false, false] (by kernel_rfl) rfl rfl ⟨(iI BK439.out 0).trans rfl, (iI BK439.out 1).trans rfl⟩ (fun hHeld => ?_); refine kF stratumlaw12_SpansSound.tab3 stratumlaw12_SpansSound.bits3 (fun HT_ HW_ => ?_)
            generalize wc.drew = w39 at BK439 BK440 HB hHeld ⊢
            refine jD (i := 1) (N := some 27) (v := ?_) (a' := ?_) #[false, true, false, false, false, false, false, false, false, false, false, false, false, false, false, false, false, false, false, false, false, false, false, false, false, false, false, false] rfl rfl (iY HT_.out (by kernel_rfl)) (fun _ _ _ h => h) (Or.inl ⟨by rfl, ?_⟩) ?_ ?_
            rotate_left
            · intro w'
              go_simp
              with_reducible rfl
            rotate_left
            · simp only [Act.put, List.setIfInBounds_toArray, List.set_cons_zero, List.set_cons_succ, iV, iW]
              rfl
            refine jD (i := 2) (N := some 28) (v := ?_) (a' := ?_) #[false, true, true, false, false, false, false, false, false, false, false, false, false, false, false, false, false, false, false, false, false, false, false, false, false, false, false, false] rfl rfl (iY HT_.out (by kernel_rfl)) (fun _ _ _ h => h) (Or.inl ⟨by rfl, ?_⟩) ?_ ?_
            rotate_left
            · intro w'
              go_simp
              with_reducible rfl
            rotate_left
            · simp only [Act.put, List.setIfInBounds_toArray, List.set_cons_zero, List.set_cons_succ, iV, iW]
              rfl
            refine jD (i := 5) (N := some 31) (v := ?_) (a' := ?_) #[false, true, true, false, false, true, false, false, false, false, false, false, false, false, false, false, false, false, false, false, false, false, false, false, false, false, false, false] rfl rfl (iY HT_.out (by kernel_rfl)) (fun _ _ _ h => h) (Or.inl ⟨by rfl, ?_⟩) ?_ ?_
            rotate_left
            · intro w'
              go_simp
              with_reducible rfl
            rotate_left
            · simp only [Act.put, List.setIfInBounds_toArray, List.set_cons_zero, List.set_cons_succ, iV, iW]
              rfl
            refine jD (i := 6) (N := some 32) (v := ?_) (a' := ?_) #[false, true, true, false, false, true, true, false, false, false, false, false, false, false, false, false, false, false, false, false, false, false, false, false, false, false, false, false] rfl rfl (iY HT_.out (by kernel_rfl)) (fun _ _ _ h => h) (Or.inl ⟨by rfl, ?_⟩) ?_ ?_
            rotate_left
            · intro w'
              go_simp
              with_reducible rfl
            rotate_left
            · simp only [Act.put, List.setIfInBounds_toArray, List.set_cons_zero, List.set_cons_succ, iV, iW]
              rfl
            refine take_ (i := 0) (N := some 26) (v := ?_) (a' := ?_) #[true, true, true, false, false, true, true, false, false, false, false, false, false, false, false, false, false, false, false, false, false, false, false, false, false, false, false, false] rfl rfl (jL HT_.out HW_.out (by kernel_rfl)) (fun _ _ _ h => h) (Or.inl ⟨by rfl, ?_⟩) hHeld ?_ ?_
            rotate_left
            · rintro w' ⟨s0, s1⟩
              go_simp
              with_reducible rfl
            rotate_left
            · simp only [Act.put, List.setIfInBounds_toArray, List.set_cons_zero, List.set_cons_succ, iV, iW]
              rfl
            refine take_ (i := 4) (N := some 30) (v := ?_) (a' := ?_) #[true, true, true, false, true, true, true, false, false, false, false, false, false, false, false, false, false, false, false, false, false, false, false, false, false, false, false, false] rfl rfl (jL HT_.out HW_.out (by kernel_rfl)) (fun _ _ _ h => h) (Or.inl ⟨by rfl, ?_⟩) hHeld ?_ ?_
            rotate_left
            · rintro w' ⟨s0, s1⟩
              go_simp
              with_reducible rfl
            rotate_left
            · simp only [Act.put, List.setIfInBounds_toArray, List.set_cons_zero, List.set_cons_succ, iV, iW]
              rfl
            refine one_ (i := 3) (N := some 29) #[true, true, true, true, true, true, true, false, false, false, false, false, false, false, false, false, false, false, false, false, false, false, false, false, false, false, false, false] rfl rfl (jZ HT_.out (by kernel_rfl)) (by decide) (fun K hK => ?_)
            refine kV Try.func33 (by kernel_rfl) rfl #[.agg #[.int .u32 a0_0, .slice A0_1 l0_1.length c0_1], .int .i64 a2, .int .i64 a3] (by rfl) rfl rfl (by (try simp only [List.map_toArray, List.map_cons, List.map_nil]); first | done | rfl | (simp only [List.length_drop, List.length_take]; rfl)) ?_
            with_reducible refine (spans_Sound.calls kj5 a0_0 _ _ l0_1 a2 a3 t443 _ ?side1 ?side2 A24.out).mono ?_
            (case side1 => repeat (first | exact (Kd.C_below HR0_1.out HB.out) | (with_reducible refine Kd.C_alloc ?_ _) | (with_reducible refine Kd.C_drewN ?_ _) | (with_reducible refine Kd.C_drew ?_)))
            (case side2 => exact HC0_1.out)
            rintro e w40 ⟨rfl, hb⟩
            refine ⟨_, rfl, ?_⟩
            have n0_ := iD.mk (iO (g := gb439) (o := .cells #[.int .u32 a0_0, .slice A0_1 l0_1.length c0_1] 42 (0, 0)) (bk_ BK439.out) hb)
            have n1_ := iD.mk (iO (g := gb440) (o := .cells #[.int .u32 a1_0, .slice A1_1 l1_1.length c1_1] 42 (0, 0)) (bk_ BK440.out) hb)
            have n2_ := iD.mk (iJ (by repeat (first | (with_reducible first | exact HB.out | apply iF | apply iC | apply iG | refine iE ?_ GE439.out | refine iE ?_ GE440.out) | exact HB.out)) hb)
            clear BK439
            clear BK440
            clear HB
            have BK439 := n0_
            have BK440 := n1_
            have HB := n2_
            clear n0_ n1_ n2_
            (try clear hb)
            (try clear hb2)
            (try clear hk)
            (try clear hi)
            refine hK.out _ _ ⟨(iI BK439.out 0).trans rfl, (iI BK439.out 1).trans rfl⟩ (fun hHeld => ?_)
            clear hK K
            refine kK (a' := ?_) ?_ ?_
            rotate_left
            · show Act.put _ (some 29) _ = _
              simp only [Act.put, List.setIfInBounds_toArray, List.set_cons_zero, List.set_cons_succ, iV, iW]
              rfl
            refine one_ (i := 7) (N := some 33) #[true, true, true, true, true, true, true, true, false, false, false, false, false, false, false, false, false, false, false, false, false, false, false, false, false, false, false, false] rfl rfl (jZ HT_.out (by kernel_rfl)) (by decide) (fun K hK => ?_)
            refine kV Try.func34 (by kernel_rfl) rfl #[.agg #[.int .u32 a0_0, .slice A0_1 l0_1.length c0_1], .int .i64 a2, .int .i64 a3] (by rfl) rfl rfl (by (try simp only [List.map_toArray, List.map_cons, List.map_nil]); first | done | rfl | (simp only [List.length_drop, List.length_take]; rfl)) ?_
            with_reducible refine (stratumref12_Sound.calls kj5 a0_0 _ _ l0_1 a2 a3 t444 _ ?side1 ?side2 A25.out).mono ?_
            (case side1 => repeat (first | exact (Kd.C_below HR0_1.out HB.out) | (with_reducible refine Kd.C_alloc ?_ _) | (with_reducible refine Kd.C_drewN ?_ _) | (with_reducible refine Kd.C_drew ?_)))
            (case side2 => exact HC0_1.out)
            rintro e w41 ⟨rfl, hb⟩
            refine ⟨_, rfl, ?_⟩
            have n0_ := iD.mk (iO (g := gb439) (o := .cells #[.int .u32 a0_0, .slice A0_1 l0_1.length c0_1] 42 (0, 0)) (bk_ BK439.out) hb)
            have n1_ := iD.mk (iO (g := gb440) (o := .cells #[.int .u32 a1_0, .slice A1_1 l1_1.length c1_1] 42 (0, 0)) (bk_ BK440.out) hb)
            have n2_ := iD.mk (iJ (by repeat (first | (with_reducible first | exact HB.out | apply iF | apply iC | apply iG | refine iE ?_ GE439.out | refine iE ?_ GE440.out) | exact HB.out)) hb)
            clear BK439
            clear BK440
            clear HB
            have BK439 := n0_
            have BK440 := n1_
            have HB := n2_
            clear n0_ n1_ n2_
            (try clear hb)
            (try clear hb2)
            (try clear hk)
            (try clear hi)
            refine hK.out _ _ ⟨(iI BK439.out 0).trans rfl, (iI BK439.out 1).trans rfl⟩ (fun hHeld => ?_)
            clear hK K
            refine kK (a' := ?_) ?_ ?_
            rotate_left
            · show Act.put _ (some 33) _ = _
              simp only [Act.put, List.setIfInBounds_toArray, List.set_cons_zero, List.set_cons_succ, iV, iW]
              rfl
            refine jD (i := 8) (N := some 34) (v := ?_) (a' := ?_) #[true, true, true, true, true, true, true, true, true, false, false, false, false, false, false, false, false, false, false, false, false, false, false, false, false, false, false, false] rfl rfl (iY HT_.out (by kernel_rfl)) (fun _ _ _ h => h) (Or.inl ⟨by rfl, ?_⟩) ?_ ?_
            rotate_left
            · intro w'
              go_simp
              with_reducible rfl
            rotate_left
            · simp only [Act.put, List.setIfInBounds_toArray, List.set_cons_zero, List.set_cons_succ, iV, iW]
              rfl
            refine jD (i := 9) (N := some 35) (v := ?_) (a' := ?_) #[true, true, true, true, true, true, true, true, true, true, false, false, false, false, false, false, false, false, false, false, false, false, false, false, false, false, false, false] rfl rfl (iY HT_.out (by kernel_rfl)) (fun _ _ _ h => h) (Or.inl ⟨by rfl, ?_⟩) ?_ ?_
            rotate_left
            · intro w'
              go_simp
              with_reducible rfl
            rotate_left
            · simp only [Act.put, List.setIfInBounds_toArray, List.set_cons_zero, List.set_cons_succ, iV, iW]
              rfl
            refine jD (i := 11) (N := some 37) (v := ?_) (a' := ?_) #[true, true, true, true, true, true, true, true, true, true, false, true, false, false, false, false, false, false, false, false, false, false, false, false, false, false, false, false] rfl rfl (iY HT_.out (by kernel_rfl)) (fun _ _ _ h => h) (Or.inl ⟨by rfl, ?_⟩) ?_ ?_
            rotate_left
            · intro w'
              go_simp
              with_reducible rfl
            rotate_left
            · simp only [Act.put, List.setIfInBounds_toArray, List.set_cons_zero, List.set_cons_succ, iV, iW]
              rfl
            refine jD (i := 14) (N := some 40) (v := ?_) (a' := ?_) #[true, true, true, true, true, true, true, true, true, true, false, true, false, false, true, false, false, false, false, false, false, false, false, false, false, false, false, false] rfl rfl (iY HT_.out (by kernel_rfl)) (fun _ _ _ h => h) (Or.inl ⟨by rfl, ?_⟩) ?_ ?_
            rotate_left
            · intro w'
              go_simp
              with_reducible rfl
            rotate_left
            · simp only [Act.put, List.setIfInBounds_toArray, List.set_cons_zero, List.set_cons_succ, iV, iW]
              rfl
            refine take_ (i := 10) (N := some 36) (v := ?_) (a' := ?_) #[true, true, true, true, true, true, true, true, true, true, true, true, false, false, true, false, false, false, false, false, false, false, false, false, false, false, false, false] rfl rfl (jL HT_.out HW_.out (by kernel_rfl)) (fun _ _ _ h => h) (Or.inl ⟨by rfl, ?_⟩) hHeld ?_ ?_
            rotate_left
            · rintro w' ⟨s0, s1⟩
              go_simp
              with_reducible rfl
            rotate_left
            · simp only [Act.put, List.setIfInBounds_toArray, List.set_cons_zero, List.set_cons_succ, iV, iW]
              rfl
            refine take_ (i := 13) (N := some 39) (v := ?_) (a' := ?_) #[true, true, true, true, true, true, true, true, true, true, true, true, false, true, true, false, false, false, false, false, false, false, false, false, false, false, false, false] rfl rfl (jL HT_.out HW_.out (by kernel_rfl)) (fun _ _ _ h => h) (Or.inl ⟨by rfl, ?_⟩) hHeld ?_ ?_
            rotate_left
            · rintro w' ⟨s0, s1⟩
              go_simp
              with_reducible rfl
            rotate_left
            · simp only [Act.put, List.setIfInBounds_toArray, List.set_cons_zero, List.set_cons_succ, iV, iW]
              rfl
            refine one_ (i := 12) (N := some 38) #[true, true, true, true, true, true, true, true, true, true, true, true, true, true, true, false, false, false, false, false, false, false, false, false, false, false, false, false] rfl rfl (jZ HT_.out (by kernel_rfl)) (by decide) (fun K hK => ?_)
            refine kV Try.func35 (by kernel_rfl) rfl #[.agg #[.int .u32 a0_0, .slice A0_1 l0_1.length c0_1], .int .i64 a4] (by rfl) rfl rfl (by (try simp only [List.map_toArray, List.map_cons, List.map_nil]); first | done | rfl | (simp only [List.length_drop, List.length_take]; rfl)) ?_
            with_reducible refine (spans_Find.calls a0_0 _ _ l0_1 a4 t445 _ ?side1 ?side2 A27.out).mono ?_
            (case side1 => repeat (first | exact (Kd.C_below HR0_1.out HB.out) | (with_reducible refine Kd.C_alloc ?_ _) | (with_reducible refine Kd.C_drewN ?_ _) | (with_reducible refine Kd.C_drew ?_)))
            (case side2 => exact HC0_1.out)
            rintro e w42 ⟨rfl, hb⟩
            refine ⟨_, rfl, ?_⟩
            have n0_ := iD.mk (iO (g := gb439) (o := .cells #[.int .u32 a0_0, .slice A0_1 l0_1.length c0_1] 42 (0, 0)) (bk_ BK439.out) hb)
            have n1_ := iD.mk (iO (g := gb440) (o := .cells #[.int .u32 a1_0, .slice A1_1 l1_1.length c1_1] 42 (0, 0)) (bk_ BK440.out) hb)
            have n2_ := iD.mk (iJ (by repeat (first | (with_reducible first | exact HB.out | apply iF | apply iC | apply iG | refine iE ?_ GE439.out | refine iE ?_ GE440.out) | exact HB.out)) hb)
            clear BK439
            clear BK440
            clear HB
            have BK439 := n0_
            have BK440 := n1_
            have HB := n2_
            clear n0_ n1_ n2_
            (try clear hb)
            (try clear hb2)
            (try clear hk)
            (try clear hi)
            refine hK.out _ _ ⟨(iI BK439.out 0).trans rfl, (iI BK439.out 1).trans rfl⟩ (fun hHeld => ?_)
            clear hK K
            refine kK (a' := ?_) ?_ ?_
            rotate_left
            · show Act.put _ (some 38) _ = _
              simp only [Act.put, List.setIfInBounds_toArray, List.set_cons_zero, List.set_cons_succ, iV, iW]
              rfl
            refine one_ (i := 15) (N := some 41) #[true, true, true, true, true, true, true, true, true, true, true, true, true, true, true, true, false, false, false, false, false, false, false, false, false, false, false, false] rfl rfl (jZ HT_.out (by kernel_rfl)) (by decide) (fun K hK => ?_)
            refine kV Try.func36 (by kernel_rfl) rfl #[.agg #[.int .u32 a0_0, .slice A0_1 l0_1.length c0_1], .int .i64 a4] (by rfl) rfl rfl (by (try simp only [List.map_toArray, List.map_cons, List.map_nil]); first | done | rfl | (simp only [List.length_drop, List.length_take]; rfl)) ?_
            with_reducible refine (stratumref12_Find.calls kj5 a0_0 _ _ l0_1 a4 t446 _ ?side1 ?side2 A28.out).mono ?_
            (case side1 => repeat (first | exact (Kd.C_below HR0_1.out HB.out) | (with_reducible refine Kd.C_alloc ?_ _) | (with_reducible refine Kd.C_drewN ?_ _) | (with_reducible refine Kd.C_drew ?_)))
            (case side2 => exact HC0_1.out)
            rintro e w43 ⟨rfl, hb⟩
            refine ⟨_, rfl, ?_⟩
            have n0_ := iD.mk (iO (g := gb439) (o := .cells #[.int .u32 a0_0, .slice A0_1 l0_1.length c0_1] 42 (0, 0)) (bk_ BK439.out) hb)
            have n1_ := iD.mk (iO (g := gb440) (o := .cells #[.int .u32 a1_0, .slice A1_1 l1_1.length c1_1] 42 (0, 0)) (bk_ BK440.out) hb)
            have n2_ := iD.mk (iJ (by repeat (first | (with_reducible first | exact HB.out | apply iF | apply iC | apply iG | refine iE ?_ GE439.out | refine iE ?_ GE440.out) | exact HB.out)) hb)
            clear BK439
            clear BK440
            clear HB
            have BK439 := n0_
            have BK440 := n1_
            have HB := n2_
            clear n0_ n1_ n2_
            (try clear hb)
            (try clear hb2)
            (try clear hk)
            (try clear hi)
            refine hK.out _ _ ⟨(iI BK439.out 0).trans rfl, (iI BK439.out 1).trans rfl⟩ (fun hHeld => ?_)
            clear hK K
            refine kK (a' := ?_) ?_ ?_
            rotate_left
            · show Act.put _ (some 41) _ = _
              simp only [Act.put, List.setIfInBounds_toArray, List.set_cons_zero, List.set_cons_succ, iV, iW]
              rfl
            refine jD (i := 16) (N := some 42) (v := ?_) (a' := ?_) #[true, true, true, true, true, true, true, true, true, true, true, true, true, true, true, true, true, false, false, false, false, false, false, false, false, false, false, false] rfl rfl (iY HT_.out (by kernel_rfl)) (fun _ _ _ h => h) (Or.inl ⟨by rfl, ?_⟩) ?_ ?_
            rotate_left
            · intro w'
              go_simp
              with_reducible rfl
            rotate_left
            · simp only [Act.put, List.setIfInBounds_toArray, List.set_cons_zero, List.set_cons_succ, iV, iW]
              rfl
            refine jD (i := 17) (N := some 43) (v := ?_) (a' := ?_) #[true, true, true, true, true, true, true, true, true, true, true, true, true, true, true, true, true, true, false, false, false, false, false, false, false, false, false, false] rfl rfl (iY HT_.out (by kernel_rfl)) (fun _ _ _ h => h) (Or.inl ⟨by rfl, ?_⟩) ?_ ?_
            rotate_left
            · intro w'
              go_simp
              with_reducible rfl
            rotate_left
            · simp only [Act.put, List.setIfInBounds_toArray, List.set_cons_zero, List.set_cons_succ, iV, iW]
              rfl
            refine jD (i := 18) (N := some 44) (v := ?_) (a' := ?_) #[true, true, true, true, true, true, true, true, true, true, true, true, true, true, true, true, true, true, true, false, false, false, false, false, false, false, false, false] rfl rfl (iY HT_.out (by kernel_rfl)) (fun _ _ _ h => h) (Or.inl ⟨by rfl, ?_⟩) ?_ ?_
            rotate_left
            · intro w'
              go_simp
              with_reducible rfl
            rotate_left
            · simp only [Act.put, List.setIfInBounds_toArray, List.set_cons_zero, List.set_cons_succ, iV, iW]
              rfl
            refine jD (i := 19) (N := some 45) (v := undef) (a' := ?_) #[true, true, true, true, true, true, true, true, true, true, true, true, true, true, true, true, true, true, true, true, false, false, false, false, false, false, false, false] rfl rfl (iY HT_.out (by kernel_rfl)) (fun _ _ _ h => h) (Or.inr ⟨by rfl, rfl⟩) ?_ ?_
            rotate_left
            · simp only [Act.put, List.setIfInBounds_toArray, List.set_cons_zero, List.set_cons_succ, iV, iW]
              rfl
            refine jD (i := 20) (N := some 46) (v := undef) (a' := ?_) #[true, true, true, true, true, true, true, true, true, true, true, true, true, true, true, true, true, true, true, true, true, false, false, false, false, false, false, false] rfl rfl (iY HT_.out (by kernel_rfl)) (fun _ _ _ h => h) (Or.inr ⟨by rfl, rfl⟩) ?_ ?_
            rotate_left
            · simp only [Act.put, List.setIfInBounds_toArray, List.set_cons_zero, List.set_cons_succ, iV, iW]
              rfl
            refine jD (i := 21) (N := some 47) (v := undef) (a' := ?_) #[true, true, true, true, true, true, true, true, true, true, true, true, true, true, true, true, true, true, true, true, true, true, false, false, false, false, false, false] rfl rfl (iY HT_.out (by kernel_rfl)) (fun _ _ _ h => h) (Or.inr ⟨by rfl, rfl⟩) ?_ ?_
            rotate_left
            · simp only [Act.put, List.setIfInBounds_toArray, List.set_cons_zero, List.set_cons_succ, iV, iW]
              rfl
            refine jD (i := 22) (N := some 48) (v := undef) (a' := ?_) #[true, true, true, true, true, true, true, true, true, true, true, true, true, true, true, true, true, true, true, true, true, true, true, false, false, false, false, false] rfl rfl (iY HT_.out (by kernel_rfl)) (fun _ _ _ h => h) (Or.inr ⟨by rfl, rfl⟩) ?_ ?_
            rotate_left
            · simp only [Act.put, List.setIfInBounds_toArray, List.set_cons_zero, List.set_cons_succ, iV, iW]
              rfl
            refine jD (i := 23) (N := some 49) (v := undef) (a' := ?_) #[true, true, true, true, true, true, true, true, true, true, true, true, true, true, true, true, true, true, true, true, true, true, true, true, false, false, false, false] rfl rfl (iY HT_.out (by kernel_rfl)) (fun _ _ _ h => h) (Or.inr ⟨by rfl, rfl⟩) ?_ ?_
            rotate_left
            · simp only [Act.put, List.setIfInBounds_toArray, List.set_cons_zero, List.set_cons_succ, iV, iW]
              rfl
            refine jD (i := 24) (N := some 50) (v := undef) (a' := ?_) #[true, true, true, true, true, true, true, true, true, true, true, true, true, true, true, true, true, true, true, true, true, true, true, true, true, false, false, false] rfl rfl (iY HT_.out (by kernel_rfl)) (fun _ _ _ h => h) (Or.inr ⟨by rfl, rfl⟩) ?_ ?_
            rotate_left
            · simp only [Act.put, List.setIfInBounds_toArray, List.set_cons_zero, List.set_cons_succ, iV, iW]
              rfl
            refine jD (i := 25) (N := some 51) (v := undef) (a' := ?_) #[true, true, true, true, true, true, true, true, true, true, true, true, true, true, true, true, true, true, true, true, true, true, true, true, true, true, false, false] rfl rfl (iY HT_.out (by kernel_rfl)) (fun _ _ _ h => h) (Or.inr ⟨by rfl, rfl⟩) ?_ ?_
            rotate_left
            · simp only [Act.put, List.setIfInBounds_toArray, List.set_cons_zero, List.set_cons_succ, iV, iW]
              rfl
            refine jD (i := 26) (N := some 52) (v := ?_) (a' := ?_) #[true, true, true, true, true, true, true, true, true, true, true, true, true, true, true, true, true, true, true, true, true, true, true, true, true, true, true, false] rfl rfl (iY HT_.out (by kernel_rfl)) (fun _ _ _ h => h) (Or.inl ⟨by rfl, ?_⟩) ?_ ?_
            rotate_left
            · intro w'
              go_simp
              with_reducible rfl
            rotate_left
            · simp only [Act.put, List.setIfInBounds_toArray, List.set_cons_zero, List.set_cons_succ, iV, iW]
              rfl
            refine jD (i := 27) (N := some 10) (v := ?_) (a' := ?_) #[true, true, true, true, true, true, true, true, true, true, true, true, true, true, true, true, true, true, true, true, true, true, true, true, true, true, true, true] rfl rfl (iY HT_.out (by kernel_rfl)) (fun _ _ _ h => h) (Or.inl ⟨by rfl, ?_⟩) ?_ ?_
            rotate_left
            · intro w'
              go_simp
              with_reducible rfl
            rotate_left
            · simp only [Act.put, List.setIfInBounds_toArray, List.set_cons_zero, List.set_cons_succ, iV, iW]
              rfl
            refine mF (kR HT_.out (by kernel_rfl)) ?_
            try go_wp2
            go_ret
            exact ⟨by first | rfl | (simp [iR, iQ] <;> rfl) | (simp [*, iR, iQ] <;> rfl), by repeat (first | (with_reducible first | exact HB.out | apply iF | apply iC | apply iG | refine iE ?_ GE439.out | refine iE ?_ GE440.out) | exact HB.out)⟩
        · rw [if_neg c26] at H
          have c26b0 : (t443 == t444) = false := by simpa using c26
          (try (have c26b1 : decide (t443 = t444) = false := by simpa using c26))
          (try (have c26b2 : (t443 == t444) = false := by simpa using c26))
          (try (have c26b3 : ¬ (t443 = t444) := by simpa using c26))
          clear c26
          obtain rfl := Option.some.inj H
          try go_wp2
          have n0_ := iD.mk (iP BK439.out)
          have n1_ := iD.mk (iP BK440.out)
          have n2_ := iD.mk (iG HB.out)
          clear BK439
          clear BK440
          clear HB
          have BK439 := n0_
          have BK440 := n1_
          have HB := n2_
          clear n0_ n1_ n2_
          refine l7 (n := 28) (S := fun w' => w'.cell? ⟨gb439, 0, none⟩ = some (.int .u32 a0_0) ∧ w'.cell? ⟨gb439, 1, none⟩ = some (.slice A0_1 l0_1.length c0_1)) (ds := []) #[false, false, false, false, false, false, false, false, false, false, false, false, false, false, false, false, false, false, false, false, false, false, false, false, false, false, false, false] (by kernel_rfl) rfl rfl ⟨(iI BK439.out 0).trans rfl, (iI BK439.out 1).trans rfl⟩ (fun hHeld => ?_); refine kF stratumlaw12_SpansSound.tab3 stratumlaw12_SpansSound.bits3 (fun HT_ HW_ => ?_)
          generalize wc.drew = w44 at BK439 BK440 HB hHeld ⊢
          refine jD (i := 1) (N := some 27) (v := ?_) (a' := ?_) #[false, true, false, false, false, false, false, false, false, false, false, false, false, false, false, false, false, false, false, false, false, false, false, false, false, false, false, false] rfl rfl (iY HT_.out (by kernel_rfl)) (fun _ _ _ h => h) (Or.inl ⟨by rfl, ?_⟩) ?_ ?_
          rotate_left
          · intro w'
            go_simp
            with_reducible rfl
          rotate_left
          · simp only [Act.put, List.setIfInBounds_toArray, List.set_cons_zero, List.set_cons_succ, iV, iW]
            rfl
          refine jD (i := 2) (N := some 28) (v := ?_) (a' := ?_) #[false, true, true, false, false, false, false, false, false, false, false, false, false, false, false, false, false, false, false, false, false, false, false, false, false, false, false, false] rfl rfl (iY HT_.out (by kernel_rfl)) (fun _ _ _ h => h) (Or.inl ⟨by rfl, ?_⟩) ?_ ?_
          rotate_left
          · intro w'
            go_simp
            with_reducible rfl
          rotate_left
          · simp only [Act.put, List.setIfInBounds_toArray, List.set_cons_zero, List.set_cons_succ, iV, iW]
            rfl
          refine jD (i := 5) (N := some 31) (v := ?_) (a' := ?_) #[false, true, true, false, false, true, false, false, false, false, false, false, false, false, false, false, false, false, false, false, false, false, false, false, false, false, false, false] rfl rfl (iY HT_.out (by kernel_rfl)) (fun _ _ _ h => h) (Or.inl ⟨by rfl, ?_⟩) ?_ ?_
          rotate_left
          · intro w'
            go_simp
            with_reducible rfl
          rotate_left
          · simp only [Act.put, List.setIfInBounds_toArray, List.set_cons_zero, List.set_cons_succ, iV, iW]
            rfl
          refine jD (i := 6) (N := some 32) (v := ?_) (a' := ?_) #[false, true, true, false, false, true, true, false, false, false, false, false, false, false, false, false, false, false, false, false, false, false, false, false, false, false, false, false] rfl rfl (iY HT_.out (by kernel_rfl)) (fun _ _ _ h => h) (Or.inl ⟨by rfl, ?_⟩) ?_ ?_
          rotate_left
          · intro w'
            go_simp
            with_reducible rfl
          rotate_left
          · simp only [Act.put, List.setIfInBounds_toArray, List.set_cons_zero, List.set_cons_succ, iV, iW]
            rfl
          refine take_ (i := 0) (N := some 26) (v := ?_) (a' := ?_) #[true, true, true, false, false, true, true, false, false, false, false, false, false, false, false, false, false, false, false, false, false, false, false, false, false, false, false, false] rfl rfl (jL HT_.out HW_.out (by kernel_rfl)) (fun _ _ _ h => h) (Or.inl ⟨by rfl, ?_⟩) hHeld ?_ ?_
          rotate_left
          · rintro w' ⟨s0, s1⟩
            go_simp
            with_reducible rfl
          rotate_left
          · simp only [Act.put, List.setIfInBounds_toArray, List.set_cons_zero, List.set_cons_succ, iV, iW]
            rfl
          refine take_ (i := 4) (N := some 30) (v := ?_) (a' := ?_) #[true, true, true, false, true, true, true, false, false, false, false, false, false, false, false, false, false, false, false, false, false, false, false, false, false, false, false, false] rfl rfl (jL HT_.out HW_.out (by kernel_rfl)) (fun _ _ _ h => h) (Or.inl ⟨by rfl, ?_⟩) hHeld ?_ ?_
          rotate_left
          · rintro w' ⟨s0, s1⟩
            go_simp
            with_reducible rfl
          rotate_left
          · simp only [Act.put, List.setIfInBounds_toArray, List.set_cons_zero, List.set_cons_succ, iV, iW]
            rfl
          refine one_ (i := 3) (N := some 29) #[true, true, true, true, true, true, true, false, false, false, false, false, false, false, false, false, false, false, false, false, false, false, false, false, false, false, false, false] rfl rfl (jZ HT_.out (by kernel_rfl)) (by decide) (fun K hK => ?_)
          refine kV Try.func33 (by kernel_rfl) rfl #[.agg #[.int .u32 a0_0, .slice A0_1 l0_1.length c0_1], .int .i64 a2, .int .i64 a3] (by rfl) rfl rfl (by (try simp only [List.map_toArray, List.map_cons, List.map_nil]); first | done | rfl | (simp only [List.length_drop, List.length_take]; rfl)) ?_
          with_reducible refine (spans_Sound.calls kj5 a0_0 _ _ l0_1 a2 a3 t443 _ ?side1 ?side2 A24.out).mono ?_
          (case side1 => repeat (first | exact (Kd.C_below HR0_1.out HB.out) | (with_reducible refine Kd.C_alloc ?_ _) | (with_reducible refine Kd.C_drewN ?_ _) | (with_reducible refine Kd.C_drew ?_)))
          (case side2 => exact HC0_1.out)
          rintro e w45 ⟨rfl, hb⟩
          refine ⟨_, rfl, ?_⟩
          have n0_ := iD.mk (iO (g := gb439) (o := .cells #[.int .u32 a0_0, .slice A0_1 l0_1.length c0_1] 42 (0, 0)) (bk_ BK439.out) hb)
          have n1_ := iD.mk (iO (g := gb440) (o := .cells #[.int .u32 a1_0, .slice A1_1 l1_1.length c1_1] 42 (0, 0)) (bk_ BK440.out) hb)
          have n2_ := iD.mk (iJ (by repeat (first | (with_reducible first | exact HB.out | apply iF | apply iC | apply iG | refine iE ?_ GE439.out | refine iE ?_ GE440.out) | exact HB.out)) hb)
          clear BK439
          clear BK440
          clear HB
          have BK439 := n0_
          have BK440 := n1_
          have HB := n2_
          clear n0_ n1_ n2_
          (try clear hb)
          (try clear hb2)
          (try clear hk)
          (try clear hi)
          refine hK.out _ _ ⟨(iI BK439.out 0).trans rfl, (iI BK439.out 1).trans rfl⟩ (fun hHeld => ?_)
          clear hK K
          refine kK (a' := ?_) ?_ ?_
          rotate_left
          · show Act.put _ (some 29) _ = _
            simp only [Act.put, List.setIfInBounds_toArray, List.set_cons_zero, List.set_cons_succ, iV, iW]
            rfl
          refine one_ (i := 7) (N := some 33) #[true, true, true, true, true, true, true, true, false, false, false, false, false, false, false, false, false, false, false, false, false, false, false, false, false, false, false, false] rfl rfl (jZ HT_.out (by kernel_rfl)) (by decide) (fun K hK => ?_)
          refine kV Try.func34 (by kernel_rfl) rfl #[.agg #[.int .u32 a0_0, .slice A0_1 l0_1.length c0_1], .int .i64 a2, .int .i64 a3] (by rfl) rfl rfl (by (try simp only [List.map_toArray, List.map_cons, List.map_nil]); first | done | rfl | (simp only [List.length_drop, List.length_take]; rfl)) ?_
          with_reducible refine (stratumref12_Sound.calls kj5 a0_0 _ _ l0_1 a2 a3 t444 _ ?side1 ?side2 A25.out).mono ?_
          (case side1 => repeat (first | exact (Kd.C_below HR0_1.out HB.out) | (with_reducible refine Kd.C_alloc ?_ _) | (with_reducible refine Kd.C_drewN ?_ _) | (with_reducible refine Kd.C_drew ?_)))
          (case side2 => exact HC0_1.out)
          rintro e w46 ⟨rfl, hb⟩
          refine ⟨_, rfl, ?_⟩
          have n0_ := iD.mk (iO (g := gb439) (o := .cells #[.int .u32 a0_0, .slice A0_1 l0_1.length c0_1] 42 (0, 0)) (bk_ BK439.out) hb)
          have n1_ := iD.mk (iO (g := gb440) (o := .cells #[.int .u32 a1_0, .slice A1_1 l1_1.length c1_1] 42 (0, 0)) (bk_ BK440.out) hb)
          have n2_ := iD.mk (iJ (by repeat (first | (with_reducible first | exact HB.out | apply iF | apply iC | apply iG | refine iE ?_ GE439.out | refine iE ?_ GE440.out) | exact HB.out)) hb)
          clear BK439
          clear BK440
          clear HB
          have BK439 := n0_
          have BK440 := n1_
          have HB := n2_
          clear n0_ n1_ n2_
          (try clear hb)
          (try clear hb2)
          (try clear hk)
          (try clear hi)
          refine hK.out _ _ ⟨(iI BK439.out 0).trans rfl, (iI BK439.out 1).trans rfl⟩ (fun hHeld => ?_)
          clear hK K
          refine kK (a' := ?_) ?_ ?_
          rotate_left
          · show Act.put _ (some 33) _ = _
            simp only [Act.put, List.setIfInBounds_toArray, List.set_cons_zero, List.set_cons_succ, iV, iW]
            rfl
          refine jD (i := 8) (N := some 34) (v := ?_) (a' := ?_) #[true, true, true, true, true, true, true, true, true, false, false, false, false, false, false, false, false, false, false, false, false, false, false, false, false, false, false, false] rfl rfl (iY HT_.out (by kernel_rfl)) (fun _ _ _ h => h) (Or.inl ⟨by rfl, ?_⟩) ?_ ?_
          rotate_left
          · intro w'
            go_simp
            with_reducible rfl
          rotate_left
          · simp only [Act.put, List.setIfInBounds_toArray, List.set_cons_zero, List.set_cons_succ, iV, iW]
            rfl
          refine jD (i := 9) (N := some 35) (v := ?_) (a' := ?_) #[true, true, true, true, true, true, true, true, true, true, false, false, false, false, false, false, false, false, false, false, false, false, false, false, false, false, false, false] rfl rfl (iY HT_.out (by kernel_rfl)) (fun _ _ _ h => h) (Or.inl ⟨by rfl, ?_⟩) ?_ ?_
          rotate_left
          · intro w'
            go_simp
            with_reducible rfl
          rotate_left
          · simp only [Act.put, List.setIfInBounds_toArray, List.set_cons_zero, List.set_cons_succ, iV, iW]
            rfl
          refine jD (i := 10) (N := some 36) (v := undef) (a' := ?_) #[true, true, true, true, true, true, true, true, true, true, true, false, false, false, false, false, false, false, false, false, false, false, false, false, false, false, false, false] rfl rfl (iY HT_.out (by kernel_rfl)) (fun _ _ _ h => h) (Or.inr ⟨by rfl, rfl⟩) ?_ ?_
          rotate_left
          · simp only [Act.put, List.setIfInBounds_toArray, List.set_cons_zero, List.set_cons_succ, iV, iW]
            rfl
          refine jD (i := 11) (N := some 37) (v := undef) (a' := ?_) #[true, true, true, true, true, true, true, true, true, true, true, true, false, false, false, false, false, false, false, false, false, false, false, false, false, false, false, false] rfl rfl (iY HT_.out (by kernel_rfl)) (fun _ _ _ h => h) (Or.inr ⟨by rfl, rfl⟩) ?_ ?_
          rotate_left
          · simp only [Act.put, List.setIfInBounds_toArray, List.set_cons_zero, List.set_cons_succ, iV, iW]
            rfl
          refine jD (i := 12) (N := some 38) (v := undef) (a' := ?_) #[true, true, true, true, true, true, true, true, true, true, true, true, true, false, false, false, false, false, false, false, false, false, false, false, false, false, false, false] rfl rfl (iY HT_.out (by kernel_rfl)) (fun _ _ _ h => h) (Or.inr ⟨by rfl, rfl⟩) ?_ ?_
          rotate_left
          · simp only [Act.put, List.setIfInBounds_toArray, List.set_cons_zero, List.set_cons_succ, iV, iW]
            rfl
          refine jD (i := 13) (N := some 39) (v := undef) (a' := ?_) #[true, true, true, true, true, true, true, true, true, true, true, true, true, true, false, false, false, false, false, false, false, false, false, false, false, false, false, false] rfl rfl (iY HT_.out (by kernel_rfl)) (fun _ _ _ h => h) (Or.inr ⟨by rfl, rfl⟩) ?_ ?_
          rotate_left
          · simp only [Act.put, List.setIfInBounds_toArray, List.set_cons_zero, List.set_cons_succ, iV, iW]
            rfl
          refine jD (i := 14) (N := some 40) (v := undef) (a' := ?_) #[true, true, true, true, true, true, true, true, true, true, true, true, true, true, true, false, false, false, false, false, false, false, false, false, false, false, false, false] rfl rfl (iY HT_.out (by kernel_rfl)) (fun _ _ _ h => h) (Or.inr ⟨by rfl, rfl⟩) ?_ ?_
          rotate_left
          · simp only [Act.put, List.setIfInBounds_toArray, List.set_cons_zero, List.set_cons_succ, iV, iW]
            rfl
          refine jD (i := 15) (N := some 41) (v := undef) (a' := ?_) #[true, true, true, true, true, true, true, true, true, true, true, true, true, true, true, true, false, false, false, false, false, false, false, false, false, false, false, false] rfl rfl (iY HT_.out (by kernel_rfl)) (fun _ _ _ h => h) (Or.inr ⟨by rfl, rfl⟩) ?_ ?_
          rotate_left
          · simp only [Act.put, List.setIfInBounds_toArray, List.set_cons_zero, List.set_cons_succ, iV, iW]
            rfl
          refine jD (i := 16) (N := some 42) (v := undef) (a' := ?_) #[true, true, true, true, true, true, true, true, true, true, true, true, true, true, true, true, true, false, false, false, false, false, false, false, false, false, false, false] rfl rfl (iY HT_.out (by kernel_rfl)) (fun _ _ _ h => h) (Or.inr ⟨by rfl, rfl⟩) ?_ ?_
          rotate_left
          · simp only [Act.put, List.setIfInBounds_toArray, List.set_cons_zero, List.set_cons_succ, iV, iW]
            rfl
          refine jD (i := 17) (N := some 43) (v := ?_) (a' := ?_) #[true, true, true, true, true, true, true, true, true, true, true, true, true, true, true, true, true, true, false, false, false, false, false, false, false, false, false, false] rfl rfl (iY HT_.out (by kernel_rfl)) (fun _ _ _ h => h) (Or.inl ⟨by rfl, ?_⟩) ?_ ?_
          rotate_left
          · intro w'
            go_simp
            with_reducible rfl
          rotate_left
          · simp only [Act.put, List.setIfInBounds_toArray, List.set_cons_zero, List.set_cons_succ, iV, iW]
            rfl
          refine jD (i := 18) (N := some 44) (v := ?_) (a' := ?_) #[true, true, true, true, true, true, true, true, true, true, true, true, true, true, true, true, true, true, true, false, false, false, false, false, false, false, false, false] rfl rfl (iY HT_.out (by kernel_rfl)) (fun _ _ _ h => h) (Or.inl ⟨by rfl, ?_⟩) ?_ ?_
          rotate_left
          · intro w'
            go_simp
            with_reducible rfl
          rotate_left
          · simp only [Act.put, List.setIfInBounds_toArray, List.set_cons_zero, List.set_cons_succ, iV, iW]
            rfl
          refine jD (i := 19) (N := some 45) (v := undef) (a' := ?_) #[true, true, true, true, true, true, true, true, true, true, true, true, true, true, true, true, true, true, true, true, false, false, false, false, false, false, false, false] rfl rfl (iY HT_.out (by kernel_rfl)) (fun _ _ _ h => h) (Or.inr ⟨by rfl, rfl⟩) ?_ ?_
          rotate_left
          · simp only [Act.put, List.setIfInBounds_toArray, List.set_cons_zero, List.set_cons_succ, iV, iW]
            rfl
          refine jD (i := 20) (N := some 46) (v := undef) (a' := ?_) #[true, true, true, true, true, true, true, true, true, true, true, true, true, true, true, true, true, true, true, true, true, false, false, false, false, false, false, false] rfl rfl (iY HT_.out (by kernel_rfl)) (fun _ _ _ h => h) (Or.inr ⟨by rfl, rfl⟩) ?_ ?_
          rotate_left
          · simp only [Act.put, List.setIfInBounds_toArray, List.set_cons_zero, List.set_cons_succ, iV, iW]
            rfl
          refine jD (i := 21) (N := some 47) (v := undef) (a' := ?_) #[true, true, true, true, true, true, true, true, true, true, true, true, true, true, true, true, true, true, true, true, true, true, false, false, false, false, false, false] rfl rfl (iY HT_.out (by kernel_rfl)) (fun _ _ _ h => h) (Or.inr ⟨by rfl, rfl⟩) ?_ ?_
          rotate_left
          · simp only [Act.put, List.setIfInBounds_toArray, List.set_cons_zero, List.set_cons_succ, iV, iW]
            rfl
          refine jD (i := 22) (N := some 48) (v := undef) (a' := ?_) #[true, true, true, true, true, true, true, true, true, true, true, true, true, true, true, true, true, true, true, true, true, true, true, false, false, false, false, false] rfl rfl (iY HT_.out (by kernel_rfl)) (fun _ _ _ h => h) (Or.inr ⟨by rfl, rfl⟩) ?_ ?_
          rotate_left
          · simp only [Act.put, List.setIfInBounds_toArray, List.set_cons_zero, List.set_cons_succ, iV, iW]
            rfl
          refine jD (i := 23) (N := some 49) (v := undef) (a' := ?_) #[true, true, true, true, true, true, true, true, true, true, true, true, true, true, true, true, true, true, true, true, true, true, true, true, false, false, false, false] rfl rfl (iY HT_.out (by kernel_rfl)) (fun _ _ _ h => h) (Or.inr ⟨by rfl, rfl⟩) ?_ ?_
          rotate_left
          · simp only [Act.put, List.setIfInBounds_toArray, List.set_cons_zero, List.set_cons_succ, iV, iW]
            rfl
          refine jD (i := 24) (N := some 50) (v := undef) (a' := ?_) #[true, true, true, true, true, true, true, true, true, true, true, true, true, true, true, true, true, true, true, true, true, true, true, true, true, false, false, false] rfl rfl (iY HT_.out (by kernel_rfl)) (fun _ _ _ h => h) (Or.inr ⟨by rfl, rfl⟩) ?_ ?_
          rotate_left
          · simp only [Act.put, List.setIfInBounds_toArray, List.set_cons_zero, List.set_cons_succ, iV, iW]
            rfl
          refine jD (i := 25) (N := some 51) (v := undef) (a' := ?_) #[true, true, true, true, true, true, true, true, true, true, true, true, true, true, true, true, true, true, true, true, true, true, true, true, true, true, false, false] rfl rfl (iY HT_.out (by kernel_rfl)) (fun _ _ _ h => h) (Or.inr ⟨by rfl, rfl⟩) ?_ ?_
          rotate_left
          · simp only [Act.put, List.setIfInBounds_toArray, List.set_cons_zero, List.set_cons_succ, iV, iW]
            rfl
          refine jD (i := 26) (N := some 52) (v := ?_) (a' := ?_) #[true, true, true, true, true, true, true, true, true, true, true, true, true, true, true, true, true, true, true, true, true, true, true, true, true, true, true, false] rfl rfl (iY HT_.out (by kernel_rfl)) (fun _ _ _ h => h) (Or.inl ⟨by rfl, ?_⟩) ?_ ?_
          rotate_left
          · intro w'
            go_simp
            with_reducible rfl
          rotate_left
          · simp only [Act.put, List.setIfInBounds_toArray, List.set_cons_zero, List.set_cons_succ, iV, iW]
            rfl
          refine jD (i := 27) (N := some 10) (v := ?_) (a' := ?_) #[true, true, true, true, true, true, true, true, true, true, true, true, true, true, true, true, true, true, true, true, true, true, true, true, true, true, true, true] rfl rfl (iY HT_.out (by kernel_rfl)) (fun _ _ _ h => h) (Or.inl ⟨by rfl, ?_⟩) ?_ ?_
          rotate_left
          · intro w'
            go_simp
            with_reducible rfl
          rotate_left
          · simp only [Act.put, List.setIfInBounds_toArray, List.set_cons_zero, List.set_cons_succ, iV, iW]
            rfl
          refine mF (kR HT_.out (by kernel_rfl)) ?_
          try go_wp2
          go_ret
          exact ⟨by first | rfl | (simp [iR, iQ] <;> rfl) | (simp [*, iR, iQ] <;> rfl), by repeat (first | (with_reducible first | exact HB.out | apply iF | apply iC | apply iG | refine iE ?_ GE439.out | refine iE ?_ GE440.out) | exact HB.out)⟩
end Go.Proofs.Ytbpdejbkfpkphaa.K
end

section
namespace Go.Proofs.Ytbpdejbkfpkphaa.K
open Go Go.RowKit Go.Proofs.YtbpdejbkfpkphaaW.PrintWords Go.Proofs.YtbpdejbkfpkphaaW.PrintLast Go.Proofs.YtbpdejbkfpkphaaW.PrintMore
theorem rD (a c : Int) (l r : List TSp) (hlr : l.length = r.length) (hl : (l.length : Int) ≤ 1000000) : ∀ (n k m i : Nat), i + n = l.length → n < k → n < m →
    ∃ b, api_Span_67.l0 k l r l.length i = some b ∧ stratumref07_SameMap.l0 m i a l c r = some b
  | _, 0, _, _, _, h, _ => by omega
  | _, _, 0, _, _, _, h => by omega
  | 0, k + 1, m + 1, i, hi, hk, hm => ⟨true, by rw [api_Span_67.l0, if_neg (by omega)], by rw [stratumref07_SameMap.l0, if_neg (by omega)]⟩
  | n + 1, k + 1, m + 1, i, hi, hk, hm => by
    have h1 : api_Span_67.l0 (k + 1) l r l.length i = if (!(((iT l i).f0) == ((iT r i).f0)) || (!(((iT l i).f1) == ((iT r i).f1)))) = true then some false else api_Span_67.l0 k l r l.length ((i + 1 : Nat) : Int) := by
      rw [api_Span_67.l0, if_pos (by omega), if_pos (by omega), if_pos (by omega), if_pos (by omega), mD i (by omega)]
    have h2 : stratumref07_SameMap.l0 (m + 1) i a l c r = if (!(((iT l i).f0) == ((iT r i).f0)) || (!(((iT l i).f1) == ((iT r i).f1)))) = true then some false else stratumref07_SameMap.l0 m ((i + 1 : Nat) : Int) a l c r := by
      rw [stratumref07_SameMap.l0, if_pos (by omega), if_pos (by omega), if_pos (by omega), mD i (by omega)]
    rw [h1, h2]
    generalize (!(((iT l i).f0) == ((iT r i).f0)) || (!(((iT l i).f1) == ((iT r i).f1)))) = q
    cases q
    · simp only [Bool.false_eq_true, if_false]
      exact rD a c l r hlr hl n k m (i + 1) (by omega) (by omega) (by omega)
    · exact ⟨false, by simp, by simp⟩
theorem qU (a c : Int) (l r : List TSp) (hl : (l.length : Int) ≤ 1000000) (k : Nat) (hk : l.length + 2 < k) :
    ∃ b, spans_Same.f k a l c r = some b ∧ stratumref07_SameMap.f k a l c r = some b := by
  obtain ⟨k, rfl⟩ : ∃ j, k = j + 1 := ⟨k - 1, by omega⟩
  unfold spans_Same.f stratumref07_SameMap.f api_Span_67.f
  by_cases h : a = c
  · rw [if_pos h, if_pos h, stratumref07_SameMap.j0]
    by_cases hlr : l.length = r.length
    · rw [if_pos (by omega), if_neg (by simp [hlr])]
      obtain ⟨b, h1, h2⟩ := rD a c l r hlr hl l.length (k + 1) k 0 (by omega) (by omega) (by omega)
      rw [show api_Span_67.l0 (k + 1) l r l.length 0 = some b from h1]
      exact ⟨b, rfl, h2⟩
    · rw [if_neg (by omega), if_pos (by simp; omega)]
      exact ⟨_, rfl, rfl⟩
  · rw [if_neg h, if_neg h, stratumref07_SameMap.j0, if_pos rfl]
    exact ⟨_, rfl, rfl⟩
theorem sound_true (k : Nat) (hk : 1000 < k) (a0 : Int) (l0 : List TSp) (a1 : Int) (l1 : List TSp) (size nodes m : Int) :
    stratumlaw12_SpansSound.f (k + 1) a0 l0 a1 l1 size nodes m = some true := by
  have hb : stratumlaw12_SpansSound.j0 (k + 1) size nodes m true a0 l0 a1 l1 = some true := by
    rw [stratumlaw12_SpansSound.j0, if_pos rfl, pG _ (by omega)]; rfl
  unfold stratumlaw12_SpansSound.f
  by_cases h : (l0.length : Int) > 200
  · rw [if_pos h]; exact hb
  rw [if_neg h]
  by_cases h2 : (l1.length : Int) > 200
  · rw [if_pos h2]; exact hb
  rw [if_neg h2, pG _ (by omega)]
  simp only [Option.bind_some, Bool.not_true]
  rw [stratumlaw12_SpansSound.j0, if_neg (by decide), uI k a0 l0 size nodes (by omega) (by omega), qM k a0 l0 size nodes (by omega) (by omega)]
  simp only [Option.bind_some]
  rw [if_pos (by simp), find_ok _ _ _ (by omega), uF k _ _ _ (by omega) (by omega)]
  simp only [Option.bind_some]
  obtain ⟨b, h3, h4⟩ := qU a0 a1 l0 l1 (by omega) k (by omega)
  rw [if_pos trivial, h3, h4]
  simp
end Go.Proofs.Ytbpdejbkfpkphaa.K
end

section
namespace Go.Proofs.Ytbpdejbkfpkphaa.My
open Go Go.RowKit Go.Proofs.YtbpdejbkfpkphaaW.PrintWords
theorem spansSound_walk (e0 : Int) (A0 : Option Addr) (c0 : Nat) (l0 : List K.S60) (e1 : Int) (A1 : Option Addr) (c1 : Nat) (l1 : List K.S60) (a2 a3 a4 : Int) (w : World)
    (hC0 : K.k60.C w A0 l0.length l0) (hc0 : l0.length ≤ c0) (_ : 0 ≤ e0 ∧ e0 < 4294967296) (_ : (l0.length : Int) ≤ 8796093022208) (hC1 : K.k60.C w A1 l1.length l1) (hc1 : l1.length ≤ c1) (_ : 0 ≤ e1 ∧ e1 < 4294967296) (_ : (l1.length : Int) ≤ 8796093022208) (_ : -9223372036854775808 ≤ a2 ∧ a2 ≤ 9223372036854775807) (_ : -9223372036854775808 ≤ a3 ∧ a3 ≤ 9223372036854775807) (_ : -9223372036854775808 ≤ a4 ∧ a4 ≤ 9223372036854775807) :
    Calls Try.prog 8 #[.agg #[.int .u32 e0, .slice A0 l0.length c0], .agg #[.int .u32 e1, .slice A1 l1.length c1], .int .i64 a2, .int .i64 a3, .int .i64 a4] w fun e w' => e = .returned (.bool true) ∧ Below w.heap.size w w' :=
  K.stratumlaw12_SpansSound.calls (1100 + 1) e0 A0 c0 l0 e1 A1 c1 l1 a2 a3 a4 true w hC0 hc0 hC1 hc1 (K.sound_true 1100 (by omega) e0 l0 e1 l1 a2 a3 a4)
end Go.Proofs.Ytbpdejbkfpkphaa.My
end

section
namespace Go.Proofs.Ytbpdejbkfpkphaa.My
open Go Go.RowKit Go.Deep Go.ChangeShapes Go.WideShapes Go.ChangeAt Go.Proofs.YtbpdejbkfpkphaaW.PrintWords
/-- A value of type t that came in reads as a v of kind d, of which ok holds and which is no heavier than the datum's bulk. -/
def Came {α : Type} (d : Kd α) (t : TypeId) (ok : α → Prop) (wt : α → Nat) : Prop :=
  ∀ {H : Type} (enc : TypeId × Value → H) (w : World) (fuel : Nat) (cs : List Value) (x : DataW H × List MemPlace), DataW.trod enc Try.prog w 0 (fun _ => true) true fuel t cs = some x → ∃ v : α, d.K w v cs ∧ ok v ∧ wt v ≤ Rows.uptoBulk x.1
theorem rX {k : IntKind} {t : TypeId} (ht : Try.prog.underlying t = some (.int k)) : Came (Kd.int k) t (fun n => (Lit.int k n).wf = true) (fun _ => 1) := by
  intro H enc w fuel cs x h
  obtain ⟨n, rfl, hx, hw⟩ := DataW.trod_int ht h
  exact ⟨n, rfl, hw, by rw [hx]; simp [Rows.uptoBulk]⟩
theorem uK {α : Type} [Inhabited α] {n : Nat} {p : Nat → α → Prop} (h : ∀ i, i < n → ∃ x, p i x) : ∃ f : Nat → α, ∀ i, i < n → p i (f i) := by
  classical
  refine ⟨fun i => if h' : i < n then Classical.choose (h i h') else default, fun i hi => ?_⟩
  simp only [dif_pos hi]
  exact Classical.choose_spec (h i hi)
theorem qZ {w : World} {a : Addr} {n : Nat} {cs : List Value} (h : w.cells? 0 a n = some cs) (i : Nat) (v : Value) (hi : cs[i]? = some v) : w.cell? (a.add i) = some v := by
  obtain ⟨_, hl, hc⟩ := World.cells?_some h
  have hil : i < n := by have := (List.getElem?_eq_some_iff.1 hi).1; omega
  rw [hc i hil]
  exact hi
end Go.Proofs.Ytbpdejbkfpkphaa.My
end

section
namespace Go.Proofs.Ytbpdejbkfpkphaa.My
open Go Go.RowKit Go.Deep Go.ChangeShapes Go.WideShapes Go.ChangeAt Go.Proofs.YtbpdejbkfpkphaaW.PrintWords
/-- Nothing in it is too large. -/
def Reach {H : Type} (t : TypeId) (d : DataW H) : Prop := ∀ n ∈ d.weights Try.prog t, n ≤ reachBytes
def lG {α : Type} (d : Kd α) (t : TypeId) (ok : α → Prop) : Prop :=
  ∀ {H : Type} (enc : TypeId × Value → H) (w : World) (fuel : Nat) (cs : List Value) (x : DataW H × List MemPlace), DataW.trod enc Try.prog w 0 (fun _ => true) true fuel t cs = some x → Reach t x.1 → ∃ v : α, d.K w v cs ∧ ok v
theorem uN {α : Type} {d : Kd α} {t : TypeId} {ok : α → Prop} {wt : α → Nat} (h : Came d t ok wt) : lG d t ok := by
  intro H enc w fuel cs x hx _
  obtain ⟨v, h1, h2, _⟩ := h enc w fuel cs x hx
  exact ⟨v, h1, h2⟩
theorem lN {α : Type} {d : Kd α} {t : TypeId} {ok ok' : α → Prop} (h : lG d t ok) (hok : ∀ x, ok x → ok' x) : lG d t ok' := by
  intro H enc w fuel cs x hx hr
  obtain ⟨v, h1, h2⟩ := h enc w fuel cs x hx hr
  exact ⟨v, h1, hok v h2⟩
theorem mP {H : Type} {e : TypeId} : ∀ {l : List (DataW H)} {d : DataW H}, d ∈ l → ∀ n ∈ d.weights Try.prog e, n ∈ DataW.weightsAll Try.prog e l
  | x :: l, d, hd, n, hn => by
    simp only [DataW.weightsAll, List.mem_append]
    rcases List.mem_cons.1 hd with rfl | hd
    · exact .inl hn
    · exact .inr (mP hd n hn)
  | [], d, hd, n, hn => by cases hd
theorem oK {α : Type} [Inhabited α] {d : Kd α} {t e : TypeId} {ok : α → Prop} {B : Nat} (ht : Try.prog.underlying t = some (.slice e)) (hc : Try.prog.cellsOf e = d.sz) (hB : Try.prog.bytesOf e = B) (he : lG d e ok) :
    lG (Kd.slice e d) t (fun l => l.length * B ≤ reachBytes ∧ ∀ x ∈ l, ok x) := by
  intro H enc w fuel cs x h hr
  rcases open_slice ht h with ⟨rfl, rfl⟩ | ⟨ad, len, cap, m, n, D, Pl, rfl, _, hl, hmax, hm, rfl, hel⟩
  · exact ⟨[], ⟨none, 0, rfl, Nat.le_refl _, ⟨rfl, by simp, fun h => absurd h (Nat.lt_irrefl 0)⟩⟩, by simp⟩
  · have hlm : len ≤ m := by rw [hm]; simp; exact hl
    have hw : ∀ n, n ∈ (((List.range len).map D).length + ((List.range (m - len)).map fun j => D (len + j)).length) * Try.prog.bytesOf e :: (DataW.weightsAll Try.prog e ((List.range len).map D) ++ DataW.weightsAll Try.prog e ((List.range (m - len)).map fun j => D (len + j))) → n ≤ reachBytes := by
      intro n hn
      refine hr n ?_
      simp only [DataW.weights, ht]
      exact hn
    have one : ∀ i, i < len → ∃ v : α, (∃ cs', w.cells? 0 (ad.add (i * Try.prog.cellsOf e)) (Try.prog.cellsOf e) = some cs' ∧ d.K w v cs') ∧ ok v := by
      intro i hi
      obtain ⟨cs', h1, h2⟩ := hel i (by omega)
      obtain ⟨v, h3, h4⟩ := he enc w n cs' _ h2 (fun k hk => hw k (List.mem_cons_of_mem _ (List.mem_append_left _ (mP (List.mem_map.2 ⟨i, List.mem_range.2 hi, rfl⟩) k hk))))
      exact ⟨v, ⟨cs', h1, h3⟩, h4⟩
    obtain ⟨L, hL⟩ := uK one
    have hlen : ((List.range len).map L).length = len := by simp
    refine ⟨(List.range len).map L, ⟨some ad, cap, by rw [hlen], by rw [hlen]; exact hl, ?_⟩, ?_, ?_⟩
    · rw [hlen]
      refine ⟨hlen, by unfold maxLen at hmax; omega, fun _ => ⟨ad, rfl, fun j p hj => ?_⟩⟩
      have hjl : j < len := by have := (List.getElem?_eq_some_iff.1 hj).1; simpa using this
      have hp : p = L j := by
        rw [List.getElem?_map, List.getElem?_range hjl] at hj
        simp only [Option.map_some, Option.some.injEq] at hj
        exact hj.symm
      subst hp
      obtain ⟨⟨cs', h1, h2⟩, _⟩ := hL j hjl
      rw [hc] at h1
      refine ⟨cs', d.K_len h2, h2, fun i u hi => ?_⟩
      have := qZ h1 i u hi
      rwa [Go.Deep.add_add] at this
    · have h1 := hw _ List.mem_cons_self
      rw [List.length_map, List.length_map, List.length_range, List.length_range, hB] at h1
      rw [hlen]
      exact Nat.le_trans (Nat.mul_le_mul_right B (by omega)) h1
    · intro y hy
      obtain ⟨i, hi, rfl⟩ := List.mem_map.1 hy
      exact (hL i (List.mem_range.1 hi)).2
theorem reach_arg {H : Type} {ts : List TypeId} {ds : List (DataW H)} (h : (DataW.weightsEach Try.prog ts ds).all (· ≤ reachBytes) = true) {j : Nat} {t : TypeId} {d : DataW H} (ht : ts[j]? = some t) (hd : ds[j]? = some d) : Reach t d := fun n hn => by
  have := List.all_eq_true.1 h n (DataW.weights_mem_each ht hd n hn)
  simpa using this
theorem qY : reachBytes = 140737488351232 := rfl
end Go.Proofs.Ytbpdejbkfpkphaa.My
end

section
namespace Go.Proofs.Ytbpdejbkfpkphaa.My
open Go Go.RowKit Go.Deep Go.ChangeShapes Go.WideShapes Go.ChangeAt Go.Proofs.YtbpdejbkfpkphaaW.PrintWords
theorem nG {α β : Type} {da : Kd α} {db : Kd β} {t : TypeId} {f0 f1 : Field} {oka : α → Prop} {okb : β → Prop} (ht : Try.prog.underlying t = some (.struct #[f0, f1])) (ct : Try.prog.cellsOf t = da.sz + db.sz)
    (h0 : f0.offset = 0) (h1 : f1.offset = da.sz) (c0 : Try.prog.cellsOf f0.type = da.sz) (c1 : Try.prog.cellsOf f1.type = db.sz) (A : lG da f0.type oka) (B : lG db f1.type okb) :
    lG (Kd.pair da db) t (fun x => oka x.1 ∧ okb x.2) := by
  intro H enc w fuel cs x h hr
  obtain ⟨y0, y1, n, rfl, hl, e0, e1⟩ := trod_struct2 ht h
  rw [h0, c0, List.drop_zero] at e0
  rw [h1, c1] at e1
  have hw : ∀ k, k ∈ DataW.weights Try.prog f0.type y0.1 ++ (DataW.weights Try.prog f1.type y1.1 ++ []) → k ≤ reachBytes := fun k hk => hr k (by
    simp only [DataW.weights, ht]
    simpa [DataW.weightsEach] using hk)
  obtain ⟨v0, k0, o0⟩ := A enc w n _ _ e0 (fun k hk => hw k (List.mem_append_left _ hk))
  obtain ⟨v1, k1, o1⟩ := B enc w n _ _ e1 (fun k hk => hw k (List.mem_append_right _ (List.mem_append_left _ hk)))
  refine ⟨(v0, v1), ⟨_, _, ?_, k0, k1⟩, ⟨o0, o1⟩⟩
  rw [List.take_of_length_le (l := cs.drop da.sz) (by rw [List.length_drop]; omega), List.take_append_drop]
theorem qQ {α β : Type} {d : Kd α} {t : TypeId} {ok : α → Prop} (f : β → α) (g : α → β) (hfg : ∀ x, f (g x) = x) (h : lG d t ok) : lG (Kd.iso d f) t (fun y => ok (f y)) := by
  intro H enc w fuel cs x hx hr
  obtain ⟨v, h1, h2⟩ := h enc w fuel cs x hx hr
  exact ⟨g v, by show d.K w (f (g v)) cs; rw [hfg]; exact h1, by show ok (f (g v)); rw [hfg]; exact h2⟩
theorem mG {k : IntKind} {t : TypeId} (ht : Try.prog.underlying t = some (.int k)) : lG (Kd.int k) t (fun n => (Lit.int k n).wf = true) := uN (rX ht)
instance : Inhabited K.S77 := ⟨K.z77⟩
instance : Inhabited K.S60 := ⟨K.z60⟩
instance : Inhabited K.S55 := ⟨K.z55⟩
theorem qB : lG K.k60 60 (fun x => (-9223372036854775808 ≤ x.f0 ∧ x.f0 < 9223372036854775808) ∧ (-9223372036854775808 ≤ x.f1 ∧ x.f1 < 9223372036854775808)) :=
  lN (qQ (fun x : K.S60 => (x.f0, x.f1)) (fun p => ⟨p.1, p.2⟩) (fun _ => rfl) (nG Try.underlying60 (by kernel_rfl) rfl rfl (by kernel_rfl) (by kernel_rfl) (mG Try.underlying3) (mG Try.underlying3))) (fun _ h => ⟨by have := wf_i64 h.1; omega, by have := wf_i64 h.2; omega⟩)
theorem oN : lG (Kd.slice 60 K.k60) 40 (fun l => (l.length : Int) ≤ 8796093022208) :=
  lN (oK (B := 16) Try.underlying40 (by kernel_rfl) (by kernel_rfl) qB) (fun _ h => by have := h.1; rw [qY] at this; omega)
theorem rC : lG (Kd.pair (Kd.int .u32) (Kd.slice 60 K.k60)) 42 (fun x => (0 ≤ x.1 ∧ x.1 < 4294967296) ∧ (x.2.length : Int) ≤ 8796093022208) :=
  lN (nG Try.underlying42 (by kernel_rfl) rfl rfl (by kernel_rfl) (by kernel_rfl) (mG Try.underlying28) oN) (fun _ h => ⟨wf_u32 h.1, h.2⟩)
theorem map_arg {H : Type} (enc : TypeId × Value → H) {w : World} {fuel : Nat} {cs : Array Value} {x : DataW H × List MemPlace} (ht : DataW.trod enc Try.prog w 0 (fun _ => true) true fuel 42 (Value.agg cs).cells.toList = some x) (hr : Reach 42 x.1) :
    ∃ (a : Int) (A : Option Addr) (c : Nat) (l : List K.S60), cs = #[.int .u32 a, .slice A l.length c] ∧ K.k60.C w A l.length l ∧ l.length ≤ c ∧ (0 ≤ a ∧ a < 4294967296) ∧ (l.length : Int) ≤ 8796093022208 := by
  obtain ⟨v, ⟨c0, c1, h1, h2, A, c, h3, h4, h5⟩, o0, o1⟩ := rC enc w fuel _ x ht hr
  have h2 : c0 = [.int .u32 v.1] := h2
  have h1 : cs.toList = c0 ++ c1 := h1
  rw [h2, h3] at h1
  refine ⟨v.1, A, c, v.2, ?_, h5, h4, o0, o1⟩
  cases cs with
  | mk l => exact congrArg Array.mk h1
end Go.Proofs.Ytbpdejbkfpkphaa.My
end
