/- Parts of the proof, one behind the other: K49, PaP. -/
import Derived.Test.YtjppookmjdaplaaQSpansParts7
set_option linter.unusedVariables false
set_option linter.unusedSimpArgs false
section
namespace Go.Proofs.Ytjppookmjdaplaa.K
open Go.RowKit Go.Proofs.YtjppookmjdaplaaW.PrintWords Go.Proofs.YtjppookmjdaplaaW.PrintLast Go.Proofs.YtjppookmjdaplaaW.PrintMore
attribute [local go_sem] jQ jP jX jW
mutual
def stratumlaw12_SpansParts.j0 : Nat → List (S91) → List (S103) → Int → Int → Int → Bool → Int → List (S96) → Option (Bool)
  | 0, _, _, _, _, _, _, _, _ => none
  | k + 1, x1, x2, x3, x4, x5, x27, x408000, x408001 => if x27 = true then ((stratumlaw12_known.f k).bind fun t409 => (some t409)) else ((stratumlaw12_Of.f k 100 3 x1).bind fun bt410 => ((spans_Parts.f k x408000 x408001 x2 x3).bind fun t415 => ((stratumref12_Parts.f k x408000 x408001 x2 x3).bind fun t418 => ((stratumref07_SameFacts.f k t415 t418).bind fun t421 => (if t421 = true then ((spans_Parts.f k bt410.1 bt410.2 x2 x3).bind fun t422 => ((stratumref12_Parts.f k bt410.1 bt410.2 x2 x3).bind fun t425 => ((stratumref07_SameFacts.f k t422 t425).bind fun t428 => (stratumlaw12_SpansParts.j1 k x4 x5 t428 x408000 x408001 bt410.1 bt410.2)))) else (stratumlaw12_SpansParts.j1 k x4 x5 false x408000 x408001 bt410.1 bt410.2))))))
def stratumlaw12_SpansParts.j1 : Nat → Int → Int → Bool → Int → List (S96) → Int → List (S96) → Option (Bool)
  | 0, _, _, _, _, _, _, _ => none
  | k + 1, x4, x5, x14, x408000, x408001, x415000, x415001 => if x4 < (-100) then (stratumlaw12_SpansParts.j2 k x4 x5 x14 true x408000 x408001 x415000 x415001) else (if x4 > 10100 then (stratumlaw12_SpansParts.j2 k x4 x5 x14 true x408000 x408001 x415000 x415001) else (if x5 < (-100) then (stratumlaw12_SpansParts.j2 k x4 x5 x14 true x408000 x408001 x415000 x415001) else (stratumlaw12_SpansParts.j2 k x4 x5 x14 (decide (x5 > 10100)) x408000 x408001 x415000 x415001)))
def stratumlaw12_SpansParts.j2 : Nat → Int → Int → Bool → Bool → Int → List (S96) → Int → List (S96) → Option (Bool)
  | 0, _, _, _, _, _, _, _, _ => none
  | k + 1, x4, x5, x14, x64, x408000, x408001, x415000, x415001 => if x64 = true then (some x14) else (if x14 = true then ((spans_Nodes.f x415000 x415001 (Int.tmod x4 200) (Int.tmod x5 200)).bind fun t429 => ((stratumref12_Nodes.f k x415000 x415001 (Int.tmod x4 200) (Int.tmod x5 200)).bind fun t432 => ((stratumref07_SameInts.f k t429 t432).bind fun t435 => (if t435 = true then ((spans_Nodes.f x408000 x408001 (Int.tmod x4 50) (Int.tmod x5 50)).bind fun t436 => ((stratumref12_Nodes.f k x408000 x408001 (Int.tmod x4 50) (Int.tmod x5 50)).bind fun t439 => ((stratumref07_SameInts.f k t436 t439).bind fun t442 => (some t442)))) else (some false))))) else (some false))
end
def stratumlaw12_SpansParts.f (k : Nat) (a0_0 : Int) (l0_1 : List (S96)) (l1 : List (S91)) (l2 : List (S103)) (a3 : Int) (a4 : Int) (a5 : Int) : Option (Bool) := if (l0_1.length : Int) > 60 then (stratumlaw12_SpansParts.j0 k l1 l2 a3 a4 a5 true a0_0 l0_1) else (if (l2.length : Int) > 100 then (stratumlaw12_SpansParts.j0 k l1 l2 a3 a4 a5 true a0_0 l0_1) else ((stratumlaw12_known.f k).bind fun t408 => (stratumlaw12_SpansParts.j0 k l1 l2 a3 a4 a5 (!t408) a0_0 l0_1)))
def stratumlaw12_SpansParts.T4 : Bool × List (List Nat × List Nat) := (true, [([], []), ([], []), ([], []), ([0, 1, 2], [0, 1, 2]), ([], []), ([], []), ([], []), ([4, 5, 6, 3], [4, 5, 6]), ([3, 7, 7], [3, 7]), ([8, 8], [8]), ([9], [9]), ([9], [9]), ([9], [9]), ([10, 11, 12, 9, 9], [9, 10, 11, 12]), ([9], [9]), ([9], [9]), ([9], [9]), ([14, 15, 16, 13, 9], [9, 14, 15, 16]), ([13, 17, 17, 9], [9, 13, 17]), ([9, 18], [9, 18]), ([19, 18, 0, 1, 2, 3, 4, 5, 6, 7, 8, 9, 10, 11, 12, 13, 14, 15, 16, 17, 18, 19], [19])])
def stratumlaw12_SpansParts.B4 : List Nat := [0, 0, 0, 7, 0, 0, 0, 127, 255, 511, 1023, 1023, 1023, 8191, 1023, 1023, 1023, 131071, 262143, 524287, 1048575]
theorem stratumlaw12_SpansParts.tab4 : rtab .any (opsOf Try.f6 4) = stratumlaw12_SpansParts.T4 := by kernel_rfl
theorem stratumlaw12_SpansParts.bits4 : kX stratumlaw12_SpansParts.T4.2 stratumlaw12_SpansParts.B4 = true := by kernel_rfl
def stratumlaw12_SpansParts.T7 : Bool × List (List Nat × List Nat) := (true, [([], []), ([0], [0]), ([1], [1]), ([1], [1]), ([3, 1], [1, 3]), ([1], [1]), ([5, 1], [1, 5]), ([2, 4, 6, 1, 1], [1, 2, 4, 6]), ([1], [1]), ([1], [1]), ([9, 1], [1, 9]), ([1], [1]), ([11, 1], [1, 11]), ([8, 10, 12, 7, 1], [1, 8, 10, 12]), ([7, 13, 13, 1], [1, 7, 13]), ([1, 14], [1, 14]), ([15, 14], [15]), ([16], [16]), ([16], [16]), ([18, 16], [16, 18]), ([16], [16]), ([20, 16], [16, 20]), ([17, 19, 21, 16, 16], [16, 17, 19, 21]), ([16], [16]), ([16], [16]), ([24, 16], [16, 24]), ([16], [16]), ([26, 16], [16, 26]), ([23, 25, 27, 22, 16], [16, 23, 25, 27]), ([22, 28, 28, 16], [16, 22, 28]), ([16, 29], [16, 29]), ([30, 29, 0, 1, 2, 3, 4, 5, 6, 7, 8, 9, 10, 11, 12, 13, 14, 15, 16, 17, 18, 19, 20, 21, 22, 23, 24, 25, 26, 27, 28, 29, 30], [30])])
def stratumlaw12_SpansParts.B7 : List Nat := [0, 1, 3, 3, 11, 3, 35, 127, 3, 3, 515, 3, 2051, 8191, 16383, 32767, 65535, 131071, 131071, 393215, 131071, 1179647, 4194303, 131071, 131071, 16908287, 131071, 67239935, 268435455, 536870911, 1073741823, 2147483647]
theorem stratumlaw12_SpansParts.tab7 : rtab .any (opsOf Try.f6 7) = stratumlaw12_SpansParts.T7 := by kernel_rfl
theorem stratumlaw12_SpansParts.bits7 : kX stratumlaw12_SpansParts.T7.2 stratumlaw12_SpansParts.B7 = true := by kernel_rfl
set_option maxHeartbeats 8000000 in
set_option maxRecDepth 100000 in
theorem stratumlaw12_SpansParts.calls (k : Nat) (a0_0 : Int) (A0_1 : Option Addr) (c0_1 : Nat) (l0_1 : List (S96)) (A1 : Option Addr) (c1 : Nat) (l1 : List (S91)) (A2 : Option Addr) (c2 : Nat) (l2 : List (S103)) (a3 : Int) (a4 : Int) (a5 : Int) (r : Bool) (w : World) (hr0_1 : Kd.C k96 w A0_1 l0_1.length l0_1) (hc0_1 : l0_1.length ≤ c0_1) (hr1 : Kd.C k91 w A1 l1.length l1) (hc1 : l1.length ≤ c1) (hr2 : Kd.C k103 w A2 l2.length l2) (hc2 : l2.length ≤ c2) (h : stratumlaw12_SpansParts.f k a0_0 l0_1 l1 l2 a3 a4 a5 = some r) :
    Calls Try.prog 6 #[.agg #[.int .u32 a0_0, .slice A0_1 l0_1.length c0_1], .slice A1 l1.length c1, .slice A2 l2.length c2, .int .i64 a3, .int .i64 a4, .int .i64 a5] w fun e w' => e = .returned (.bool r) ∧ Below w.heap.size w w' := by
  have hu42 := Try.underlying42
  have HR0_1 := iC.mk hr0_1
  have HC0_1 := iC.mk hc0_1
  clear hr0_1 hc0_1
  have HR1 := iC.mk hr1
  have HC1 := iC.mk hc1
  clear hr1 hc1
  have HR2 := iC.mk hr2
  have HC2 := iC.mk hc2
  clear hr2 hc2
  have HB := iC.mk (Below.refl w.heap.size w)
  have H : (if (l0_1.length : Int) > 60 then (stratumlaw12_SpansParts.j0 k l1 l2 a3 a4 a5 true a0_0 l0_1) else (if (l2.length : Int) > 100 then (stratumlaw12_SpansParts.j0 k l1 l2 a3 a4 a5 true a0_0 l0_1) else ((stratumlaw12_known.f k).bind fun t408 => (stratumlaw12_SpansParts.j0 k l1 l2 a3 a4 a5 (!t408) a0_0 l0_1)))) = some r := h
  clear h
  have HC7 := iC.mk H
  clear H
  go_enter Try.func6, Try.ntmps6
  go_upto_region 1 with (first | ((with_reducible refine jF (N := 6) rfl ?_); (try (refine jB (by rfl) ?_; dsimp only)); refine jD ?hg (N := 6) ?hd (cs := #[.int .u32 a0_0, .slice A0_1 l0_1.length c0_1]) (t := 42) ?hr ?_; (case hd => rfl); (case hg => rfl); (case hr => first | (go_simp; done) | (go_simp; rfl)); intro gb407 hg w8 hbox hb; have n0_ := iC.mk (iM hb_ hb); have n1_ := iC.mk (hbox); have n2_ := iC.mk ((by rw [hg]; exact (iJ hb_) : w.heap.size ≤ gb407)); have n3_ := iC.mk ((by rw [hg]; exact (iJ hb_) : w.heap.size ≤ gb407)); clear HB; have HB := n0_; have BK407 := n1_; have GW407 := n2_; have GE407 := n3_; clear n0_ n1_ n2_ n3_; clear hb hbox hg))
  (try simp only [Act.put, List.setIfInBounds_toArray, List.set_cons_zero, List.set_cons_succ])
  go_cut [27] (fun v27 wc => ∃ (kq : Nat) (x27_6 : Bool), v27 = .bool x27_6 ∧ iC (stratumlaw12_SpansParts.j0 kq l1 l2 a3 a4 a5 x27_6 a0_0 l0_1 = some r) ∧ iC (kq ≤ k) ∧ iC (wc.heap[gb407]? = some (.cells #[.int .u32 a0_0, (.slice A0_1 l0_1.length c0_1)] 42 (0, 0))) ∧ iC (Below w.heap.size w wc))
  case first =>
    have H := HC7.out
    clear HC7
    by_cases c9 : (l0_1.length : Int) > 60
    · rw [if_pos c9] at H
      have c9b0 : decide (60 < (l0_1.length : Int)) = true := decide_eq_true c9
      have c9b1 : decide (60 < l0_1.length) = true := decide_eq_true (by omega)
      clear c9
      (first | rw [c9b0] | (simp only [iR, iT]; rw [c9b0]) | skip)
      have H' := iC.mk H
      clear H
      have hcz10_0 : w8.cell? ⟨gb407, 0, none⟩ = some (.int .u32 a0_0) := (iH BK407.out 0).trans rfl
      have hcz10_1 : w8.cell? ⟨gb407, 1, none⟩ = some (.slice A0_1 l0_1.length c0_1) := (iH BK407.out 1).trans rfl
      have hfz10_0 := iI BK407.out 0
      have hfz10_1 := iI BK407.out 1
      go_wp2
      go_meet
      case rel => exact ⟨_, (true), (by first | rfl | (simp; done) | (simp [*]; done)), H', ⟨by first | omega | exact Nat.le_refl _⟩, ⟨bk_ BK407.out⟩, ⟨by repeat (first | (with_reducible first | exact HB.out | apply iG | apply iD | apply iF | refine iE ?_ GE407.out) | exact HB.out)⟩⟩
    · rw [if_neg c9] at H
      have c9b0 : decide (60 < (l0_1.length : Int)) = false := decide_eq_false c9
      have c9b1 : decide (60 < l0_1.length) = false := decide_eq_false (by omega)
      clear c9
      (first | rw [c9b0] | (simp only [iR, iT]; rw [c9b0]) | skip)
      by_cases c11 : (l2.length : Int) > 100
      · rw [if_pos c11] at H
        have c11b0 : decide (100 < (l2.length : Int)) = true := decide_eq_true c11
        have c11b1 : decide (100 < l2.length) = true := decide_eq_true (by omega)
        clear c11
        have H' := iC.mk H
        clear H
        have hcz12_0 : w8.cell? ⟨gb407, 0, none⟩ = some (.int .u32 a0_0) := (iH BK407.out 0).trans rfl
        have hcz12_1 : w8.cell? ⟨gb407, 1, none⟩ = some (.slice A0_1 l0_1.length c0_1) := (iH BK407.out 1).trans rfl
        have hfz12_0 := iI BK407.out 0
        have hfz12_1 := iI BK407.out 1
        go_wp2
        go_meet
        case rel => exact ⟨_, (true), (by first | rfl | (simp; done) | (simp [*]; done)), H', ⟨by first | omega | exact Nat.le_refl _⟩, ⟨bk_ BK407.out⟩, ⟨by repeat (first | (with_reducible first | exact HB.out | apply iG | apply iD | apply iF | refine iE ?_ GE407.out) | exact HB.out)⟩⟩
      · rw [if_neg c11] at H
        have c11b0 : decide (100 < (l2.length : Int)) = false := decide_eq_false c11
        have c11b1 : decide (100 < l2.length) = false := decide_eq_false (by omega)
        clear c11
        replace H := Option.bind_eq_some_iff.mp H
        obtain ⟨t408, A130, H⟩ := H
        replace H : (stratumlaw12_SpansParts.j0 k l1 l2 a3 a4 a5 (!t408) a0_0 l0_1) = some r := H
        have A13 := iC.mk A130
        clear A130
        have H' := iC.mk H
        clear H
        have hcz14_0 : w8.cell? ⟨gb407, 0, none⟩ = some (.int .u32 a0_0) := (iH BK407.out 0).trans rfl
        have hcz14_1 : w8.cell? ⟨gb407, 1, none⟩ = some (.slice A0_1 l0_1.length c0_1) := (iH BK407.out 1).trans rfl
        have hfz14_0 := iI BK407.out 0
        have hfz14_1 := iI BK407.out 1
        go_wp2_with (first | (go_at_call 21; (with_reducible refine (stratumlaw12_known.calls k  t408 _ A13.out).mono ?_); rintro e w15 ⟨rfl, hb⟩; have n0_ := iC.mk (iP (g := gb407) (o := .cells #[.int .u32 a0_0, .slice A0_1 l0_1.length c0_1] 42 (0, 0)) (bk_ BK407.out) hb); have n1_ := iC.mk (iM (by repeat (first | (with_reducible first | exact HB.out | apply iG | apply iD | apply iF | refine iE ?_ GE407.out) | exact HB.out)) hb); clear BK407; clear HB; have BK407 := n0_; have HB := n1_; clear n0_ n1_; (try clear hb); (try clear hb2); (try clear hk); (try clear hi)))
        go_meet
        case rel => exact ⟨_, (!t408), (by first | rfl | (simp; done) | (simp [*]; done)), H', ⟨by first | omega | exact Nat.le_refl _⟩, ⟨bk_ BK407.out⟩, ⟨by repeat (first | (with_reducible first | exact HB.out | apply iG | apply iD | apply iF | refine iE ?_ GE407.out) | exact HB.out)⟩⟩
  case rest =>
    clear HC7
    try clear c1
    try clear c2
    try clear p2
    try clear c6
    try clear c9
    try clear c9b0
    try clear c9b1
    try clear c11
    try clear c11b0
    try clear c11b1
    try clear hcz10_0
    try clear hcz10_1
    try clear hcz12_0
    try clear hcz12_1
    try clear hcz14_0
    try clear hcz14_1
    try clear hfz10_0
    try clear hfz10_1
    try clear hfz12_0
    try clear hfz12_1
    try clear hfz14_0
    try clear hfz14_1
    obtain ⟨kq, x27_6, rfl, HA, HJ6, BK407, HB⟩ := hcut
    cases kq with
    | zero => exact absurd HA.out (by simp [stratumlaw12_SpansParts.j0])
    | succ kj6 =>
      have H := HA.out
      clear HA
      simp only [stratumlaw12_SpansParts.j0] at H
      by_cases c16 : x27_6 = true
      · subst c16
        have H1 : ((stratumlaw12_known.f kj6).bind fun t409 => (some t409)) = some r := by rw [if_pos rfl] at H; exact H
        clear H
        have H := H1
        clear H1
        replace H := Option.bind_eq_some_iff.mp H
        obtain ⟨t409, A170, H⟩ := H
        replace H : (some t409) = some r := H
        have A17 := iC.mk A170
        clear A170
        obtain rfl := Option.some.inj H
        go_wp2_with (first | ((with_reducible refine iZ (f := 21) rfl ?_); refine jJ (some 28) rfl rfl Try.func21 (by kernel_rfl) rfl #[] rfl (by (try simp only [List.map_toArray, List.map_cons, List.map_nil]); first | done | rfl | (simp only [List.length_drop, List.length_take]; rfl)) ?_; (with_reducible refine (stratumlaw12_known.calls kj6  t409 _ A17.out).mono ?_); rintro e w18 ⟨rfl, hb⟩; refine ⟨_, rfl, ?_⟩; have n0_ := iC.mk (iP (g := gb407) (o := .cells #[.int .u32 a0_0, .slice A0_1 l0_1.length c0_1] 42 (0, 0)) (bk_ BK407.out) hb); have n1_ := iC.mk (iM (by repeat (first | (with_reducible first | exact HB.out | apply iG | apply iD | apply iF | refine iE ?_ GE407.out) | exact HB.out)) hb); clear BK407; clear HB; have BK407 := n0_; have HB := n1_; clear n0_ n1_; (try clear hb); (try clear hb2); (try clear hk); (try clear hi)))
        go_ret
        exact ⟨by first | rfl | (simp [iU, iV] <;> rfl) | (simp [*, iU, iV] <;> rfl), by repeat (first | (with_reducible first | exact HB.out | apply iG | apply iD | apply iF | refine iE ?_ GE407.out) | exact HB.out)⟩
      · replace c16 := Bool.eq_false_iff.mpr c16
        subst c16
        have H1 : ((stratumlaw12_Of.f kj6 100 3 l1).bind fun bt410 => ((spans_Parts.f kj6 a0_0 l0_1 l2 a3).bind fun t415 => ((stratumref12_Parts.f kj6 a0_0 l0_1 l2 a3).bind fun t418 => ((stratumref07_SameFacts.f kj6 t415 t418).bind fun t421 => (if t421 = true then ((spans_Parts.f kj6 bt410.1 bt410.2 l2 a3).bind fun t422 => ((stratumref12_Parts.f kj6 bt410.1 bt410.2 l2 a3).bind fun t425 => ((stratumref07_SameFacts.f kj6 t422 t425).bind fun t428 => (stratumlaw12_SpansParts.j1 kj6 a4 a5 t428 a0_0 l0_1 bt410.1 bt410.2)))) else (stratumlaw12_SpansParts.j1 kj6 a4 a5 false a0_0 l0_1 bt410.1 bt410.2)))))) = some r := by rw [if_neg (show ¬ (false = true) by decide)] at H; exact H
        clear H
        have H := H1
        clear H1
        replace H := Option.bind_eq_some_iff.mp H
        obtain ⟨⟨t410, t411⟩, A190, H⟩ := H
        replace H : ((spans_Parts.f kj6 a0_0 l0_1 l2 a3).bind fun t415 => ((stratumref12_Parts.f kj6 a0_0 l0_1 l2 a3).bind fun t418 => ((stratumref07_SameFacts.f kj6 t415 t418).bind fun t421 => (if t421 = true then ((spans_Parts.f kj6 t410 t411 l2 a3).bind fun t422 => ((stratumref12_Parts.f kj6 t410 t411 l2 a3).bind fun t425 => ((stratumref07_SameFacts.f kj6 t422 t425).bind fun t428 => (stratumlaw12_SpansParts.j1 kj6 a4 a5 t428 a0_0 l0_1 t410 t411)))) else (stratumlaw12_SpansParts.j1 kj6 a4 a5 false a0_0 l0_1 t410 t411))))) = some r := H
        have A19 := iC.mk A190
        clear A190
        have HC20 := iC.mk H
        clear H
        go_upto_region 4 with (first | ((with_reducible refine iZ (f := 17) rfl ?_); refine jJ (some 30) rfl rfl Try.func17 (by kernel_rfl) rfl #[.int .i64 100, .int .i64 3, .slice A1 l1.length c1] rfl (by (try simp only [List.map_toArray, List.map_cons, List.map_nil]); first | done | rfl | (simp only [List.length_drop, List.length_take]; rfl)) ?_; (with_reducible refine (stratumlaw12_Of.calls kj6 100 3 _ _ l1 t410 t411 _ ?side1 ?side2 A19.out).mono ?_); (case side1 => repeat (first | exact (Kd.C_below HR1.out HB.out) | (with_reducible refine Kd.C_alloc ?_ _) | (with_reducible refine Kd.C_drewN ?_ _) | (with_reducible refine Kd.C_drew ?_))); (case side2 => exact HC1.out); rintro e w21 ⟨v412, rfl, ho0, hb⟩; refine ⟨_, rfl, ?_⟩; have n0_ := iC.mk (Kd.R_lower ho0 (iJ (by repeat (first | (with_reducible first | exact HB.out | apply iG | apply iD | apply iF | refine iE ?_ GE407.out) | exact HB.out)))); have n1_ := iC.mk (iP (g := gb407) (o := .cells #[.int .u32 a0_0, .slice A0_1 l0_1.length c0_1] 42 (0, 0)) (bk_ BK407.out) hb); have n2_ := iC.mk (iM (by repeat (first | (with_reducible first | exact HB.out | apply iG | apply iD | apply iF | refine iE ?_ GE407.out) | exact HB.out)) hb); clear BK407; clear HB; have HO413 := n0_; have BK407 := n1_; have HB := n2_; clear n0_ n1_ n2_; (try clear hb); (try clear hb2); (try clear hk); (try clear hi); (try clear ho0)) | ((with_reducible refine jF (N := 13) rfl ?_); (try (refine jB (by rfl) ?_; dsimp only)); refine jD ?hg (N := 13) ?hd (cs := #[.int .u32 0, .slice none 0 0]) (t := 42) ?hr ?_; (case hd => rfl); (case hg => rfl); (case hr => first | (go_simp; done) | (go_simp; rfl)); intro gb414 hg w22 hbox hb; have n0_ := iC.mk (Kd.R_below (by (with_reducible repeat (first | apply Kd.R_alloc | apply Kd.R_drewN | apply Kd.R_drew)); exact HO413.out) hb); have n1_ := iC.mk (iP (g := gb407) (o := .cells #[.int .u32 a0_0, .slice A0_1 l0_1.length c0_1] 42 (0, 0)) (bk_ BK407.out) hb); have n2_ := iC.mk (iM (by repeat (first | (with_reducible first | exact HB.out | apply iG | apply iD | apply iF | refine iE ?_ GE407.out) | exact HB.out)) hb); have n3_ := iC.mk (hbox); have n4_ := iC.mk ((by rw [hg]; exact (iJ (by repeat (first | (with_reducible first | exact HB.out | apply iG | apply iD | apply iF | refine iE ?_ GE407.out) | exact HB.out))) : w.heap.size ≤ gb414)); have n5_ := iC.mk ((by rw [hg]; exact (iJ (by repeat (first | (with_reducible first | exact HB.out | apply iG | apply iD | apply iF | refine iE ?_ GE407.out) | exact HB.out))) : w.heap.size ≤ gb414)); have n6_ := iC.mk ((by rw [hg]; exact Nat.ne_of_lt (jE (g := gb407) (o := .cells #[.int .u32 a0_0, .slice A0_1 l0_1.length c0_1] 42 (0, 0)) (bk_ BK407.out)) : gb407 ≠ gb414)); have n7_ := iC.mk ((by rw [hg]; exact Nat.ne_of_gt (jE (g := gb407) (o := .cells #[.int .u32 a0_0, .slice A0_1 l0_1.length c0_1] 42 (0, 0)) (bk_ BK407.out)) : gb414 ≠ gb407)); clear HO413; clear BK407; clear HB; have HO413 := n0_; have BK407 := n1_; have HB := n2_; have BK414 := n3_; have GW414 := n4_; have GE414 := n5_; have NB407_414 := n6_; have NB414_407 := n7_; clear n0_ n1_ n2_ n3_ n4_ n5_ n6_ n7_; clear hb hbox hg; have hnb23 := NB414_407.out; have hnc23 := NB407_414.out; have hcz24_0 : w22.cell? ⟨gb414, 0, none⟩ = some (.int .u32 0) := (iH BK414.out 0).trans rfl; have hcz24_1 : w22.cell? ⟨gb414, 1, none⟩ = some (.slice none 0 0) := (iH BK414.out 1).trans rfl; have hfz24_0 := iI BK414.out 0; have hfz24_1 := iI BK414.out 1; obtain ⟨Ao25, co25, eo25⟩ := Kd.R_slice HO413.out; subst eo25))
        (try simp only [Act.put, List.setIfInBounds_toArray, List.set_cons_zero, List.set_cons_succ])
        go_cut [14] (fun v14 wc => ∃ (kq : Nat) (x14_19 : Bool), v14 = .bool x14_19 ∧ iC (stratumlaw12_SpansParts.j1 kq a4 a5 x14_19 a0_0 l0_1 t410 t411 = some r) ∧ iC (kq ≤ kj6) ∧ iC (Kd.R k96 96 wc w.heap.size (fun _ => True) (.slice Ao25 t411.length co25) t411) ∧ iC (wc.heap[gb407]? = some (.cells #[.int .u32 a0_0, (.slice A0_1 l0_1.length c0_1)] 42 (0, 0))) ∧ iC (wc.heap[gb414]? = some (.cells #[.int .u32 t410, (.slice Ao25 t411.length co25)] 42 (0, 0))) ∧ iC (Below w.heap.size w wc))
        case first =>
          have H := HC20.out
          clear HC20
          replace H := Option.bind_eq_some_iff.mp H
          obtain ⟨t415, A260, H⟩ := H
          replace H : ((stratumref12_Parts.f kj6 a0_0 l0_1 l2 a3).bind fun t418 => ((stratumref07_SameFacts.f kj6 t415 t418).bind fun t421 => (if t421 = true then ((spans_Parts.f kj6 t410 t411 l2 a3).bind fun t422 => ((stratumref12_Parts.f kj6 t410 t411 l2 a3).bind fun t425 => ((stratumref07_SameFacts.f kj6 t422 t425).bind fun t428 => (stratumlaw12_SpansParts.j1 kj6 a4 a5 t428 a0_0 l0_1 t410 t411)))) else (stratumlaw12_SpansParts.j1 kj6 a4 a5 false a0_0 l0_1 t410 t411)))) = some r := H
          have A26 := iC.mk A260
          clear A260
          replace H := Option.bind_eq_some_iff.mp H
          obtain ⟨t418, A270, H⟩ := H
          replace H : ((stratumref07_SameFacts.f kj6 t415 t418).bind fun t421 => (if t421 = true then ((spans_Parts.f kj6 t410 t411 l2 a3).bind fun t422 => ((stratumref12_Parts.f kj6 t410 t411 l2 a3).bind fun t425 => ((stratumref07_SameFacts.f kj6 t422 t425).bind fun t428 => (stratumlaw12_SpansParts.j1 kj6 a4 a5 t428 a0_0 l0_1 t410 t411)))) else (stratumlaw12_SpansParts.j1 kj6 a4 a5 false a0_0 l0_1 t410 t411))) = some r := H
          have A27 := iC.mk A270
          clear A270
          replace H := Option.bind_eq_some_iff.mp H
          obtain ⟨t421, A280, H⟩ := H
          replace H : (if t421 = true then ((spans_Parts.f kj6 t410 t411 l2 a3).bind fun t422 => ((stratumref12_Parts.f kj6 t410 t411 l2 a3).bind fun t425 => ((stratumref07_SameFacts.f kj6 t422 t425).bind fun t428 => (stratumlaw12_SpansParts.j1 kj6 a4 a5 t428 a0_0 l0_1 t410 t411)))) else (stratumlaw12_SpansParts.j1 kj6 a4 a5 false a0_0 l0_1 t410 t411)) = some r := H
          have A28 := iC.mk A280
          clear A280
          by_cases c29 : t421 = true
          · subst c29
            have H1 : ((spans_Parts.f kj6 t410 t411 l2 a3).bind fun t422 => ((stratumref12_Parts.f kj6 t410 t411 l2 a3).bind fun t425 => ((stratumref07_SameFacts.f kj6 t422 t425).bind fun t428 => (stratumlaw12_SpansParts.j1 kj6 a4 a5 t428 a0_0 l0_1 t410 t411)))) = some r := by rw [if_pos rfl] at H; exact H
            clear H
            have H := H1
            clear H1
            replace H := Option.bind_eq_some_iff.mp H
            obtain ⟨t422, A300, H⟩ := H
            replace H : ((stratumref12_Parts.f kj6 t410 t411 l2 a3).bind fun t425 => ((stratumref07_SameFacts.f kj6 t422 t425).bind fun t428 => (stratumlaw12_SpansParts.j1 kj6 a4 a5 t428 a0_0 l0_1 t410 t411))) = some r := H
            have A30 := iC.mk A300
            clear A300
            replace H := Option.bind_eq_some_iff.mp H
            obtain ⟨t425, A310, H⟩ := H
            replace H : ((stratumref07_SameFacts.f kj6 t422 t425).bind fun t428 => (stratumlaw12_SpansParts.j1 kj6 a4 a5 t428 a0_0 l0_1 t410 t411)) = some r := H
            have A31 := iC.mk A310
            clear A310
            replace H := Option.bind_eq_some_iff.mp H
            obtain ⟨t428, A320, H⟩ := H
            replace H : (stratumlaw12_SpansParts.j1 kj6 a4 a5 t428 a0_0 l0_1 t410 t411) = some r := H
            have A32 := iC.mk A320
            clear A320
            have H' := iC.mk H
            clear H
            try go_wp2
            have n0_ : iC (Kd.R k96 96 ((w22.setCell ⟨gb414, 0, none⟩ (.int .u32 t410)).setCell ⟨gb414, 1, none⟩ (.slice Ao25 t411.length co25)) w.heap.size (fun _ => True) (.slice Ao25 t411.length co25) t411) := ⟨by (with_reducible repeat (first | apply Kd.R_alloc | apply Kd.R_drewN | apply Kd.R_drew)); exact Kd.R_mono (Kd.R_far (p := ⟨gb414, 1, none⟩) (Kd.R_far (p := ⟨gb414, 0, none⟩) (Kd.R_types HO413.out BK414.out (by decide)) (fun _ hk => hk.2) (.int .u32 t410)) (fun _ hk => hk.2) (.slice Ao25 t411.length co25)) (fun _ hk => trivial)⟩
            have n1_ : iC (((w22.setCell ⟨gb414, 0, none⟩ (.int .u32 t410)).setCell ⟨gb414, 1, none⟩ (.slice Ao25 t411.length co25)).heap[gb407]? = some (.cells #[.int .u32 a0_0, .slice A0_1 l0_1.length c0_1] 42 (0, 0))) := ⟨by (with_reducible repeat (first | refine iL ?_ _ | refine iO ?_ | refine iK ?_ _)); refine jI ?_ NB407_414.out _; (with_reducible repeat (first | refine iL ?_ _ | refine iO ?_ | refine iK ?_ _)); refine jI ?_ NB407_414.out _; (with_reducible repeat (first | refine iL ?_ _ | refine iO ?_ | refine iK ?_ _)); exact BK407.out⟩
            have n2_ : iC (((w22.setCell ⟨gb414, 0, none⟩ (.int .u32 t410)).setCell ⟨gb414, 1, none⟩ (.slice Ao25 t411.length co25)).heap[gb414]? = some (.cells #[.int .u32 t410, .slice Ao25 t411.length co25] 42 (0, 0))) := ⟨by (with_reducible repeat (first | refine iL ?_ _ | refine iO ?_ | refine iK ?_ _)); refine jC (cs := #[.int .u32 t410, .slice none 0 0]) ?_ 1 _ rfl; (with_reducible repeat (first | refine iL ?_ _ | refine iO ?_ | refine iK ?_ _)); refine jC (cs := #[.int .u32 0, .slice none 0 0]) ?_ 0 _ rfl; (with_reducible repeat (first | refine iL ?_ _ | refine iO ?_ | refine iK ?_ _)); exact BK414.out⟩
            have n3_ : iC (Below w.heap.size w ((w22.setCell ⟨gb414, 0, none⟩ (.int .u32 t410)).setCell ⟨gb414, 1, none⟩ (.slice Ao25 t411.length co25))) := ⟨by repeat (first | (with_reducible first | exact HB.out | apply iG | apply iD | apply iF | refine iE ?_ GE407.out | refine iE ?_ GE414.out) | exact HB.out)⟩
            (try clear HO413)
            (try clear BK407)
            (try clear BK414)
            (try clear HB)
            generalize ((w22.setCell ⟨gb414, 0, none⟩ (.int .u32 t410)).setCell ⟨gb414, 1, none⟩ (.slice Ao25 t411.length co25)) = w33 at n0_ n1_ n2_ n3_ ⊢
            have HO413 := n0_
            have BK407 := n1_
            have BK414 := n2_
            have HB := n3_
            clear n0_ n1_ n2_ n3_
            have n0_ := iC.mk (Kd.R_drew HO413.out)
            have n1_ := iC.mk (iO BK407.out)
            have n2_ := iC.mk (iO BK414.out)
            have n3_ := iC.mk (iF HB.out)
            clear HO413
            clear BK407
            clear BK414
            clear HB
            have HO413 := n0_
            have BK407 := n1_
            have BK414 := n2_
            have HB := n3_
            clear n0_ n1_ n2_ n3_
            refine kP (n := 21) (S := fun w' => w'.cell? ⟨gb407, 0, none⟩ = some (.int .u32 a0_0) ∧ w'.cell? ⟨gb407, 1, none⟩ = some (.slice A0_1 l0_1.length c0_1) ∧ w'.cell? ⟨gb414, 0, none⟩ = some (.int .u32 t410) ∧ w'.cell? ⟨gb414, 1, none⟩ = some (.slice Ao25 t411.length co25)) (ds := []) #[false, false, false, false, false, false, false, false, false, false, false, false, false, false, false, false, false, false, false, false, false] (by kernel_rfl) rfl rfl ⟨(iH BK407.out 0).trans rfl, (iH BK407.out 1).trans rfl, (iH BK414.out 0).trans rfl, (iH BK414.out 1).trans rfl⟩ (fun hHeld => ?_); refine jV stratumlaw12_SpansParts.tab4 stratumlaw12_SpansParts.bits4 (fun HT_ HW_ => ?_)
            generalize w33.drew = w34 at HO413 BK407 BK414 HB hHeld ⊢
            refine jA (i := 1) (N := some 32) (v := ?_) (a' := ?_) #[false, true, false, false, false, false, false, false, false, false, false, false, false, false, false, false, false, false, false, false, false] rfl rfl (iQ HT_.out (by kernel_rfl)) (fun _ _ _ h => h) (Or.inl ⟨by rfl, ?_⟩) ?_ ?_
            rotate_left
            · intro w'
              go_simp
              with_reducible rfl
            rotate_left
            · simp only [Act.put, List.setIfInBounds_toArray, List.set_cons_zero, List.set_cons_succ, iR, iT]
              rfl
            refine jA (i := 2) (N := some 33) (v := ?_) (a' := ?_) #[false, true, true, false, false, false, false, false, false, false, false, false, false, false, false, false, false, false, false, false, false] rfl rfl (iQ HT_.out (by kernel_rfl)) (fun _ _ _ h => h) (Or.inl ⟨by rfl, ?_⟩) ?_ ?_
            rotate_left
            · intro w'
              go_simp
              with_reducible rfl
            rotate_left
            · simp only [Act.put, List.setIfInBounds_toArray, List.set_cons_zero, List.set_cons_succ, iR, iT]
              rfl
            refine jA (i := 5) (N := some 36) (v := ?_) (a' := ?_) #[false, true, true, false, false, true, false, false, false, false, false, false, false, false, false, false, false, false, false, false, false] rfl rfl (iQ HT_.out (by kernel_rfl)) (fun _ _ _ h => h) (Or.inl ⟨by rfl, ?_⟩) ?_ ?_
            rotate_left
            · intro w'
              go_simp
              with_reducible rfl
            rotate_left
            · simp only [Act.put, List.setIfInBounds_toArray, List.set_cons_zero, List.set_cons_succ, iR, iT]
              rfl
            refine jA (i := 6) (N := some 37) (v := ?_) (a' := ?_) #[false, true, true, false, false, true, true, false, false, false, false, false, false, false, false, false, false, false, false, false, false] rfl rfl (iQ HT_.out (by kernel_rfl)) (fun _ _ _ h => h) (Or.inl ⟨by rfl, ?_⟩) ?_ ?_
            rotate_left
            · intro w'
              go_simp
              with_reducible rfl
            rotate_left
            · simp only [Act.put, List.setIfInBounds_toArray, List.set_cons_zero, List.set_cons_succ, iR, iT]
              rfl
            refine kF (i := 0) (N := some 31) (v := ?_) (a' := ?_) #[true, true, true, false, false, true, true, false, false, false, false, false, false, false, false, false, false, false, false, false, false] rfl rfl (jK HT_.out HW_.out (by kernel_rfl)) (fun _ _ _ h => h) (Or.inl ⟨by rfl, ?_⟩) hHeld ?_ ?_
            rotate_left
            · rintro w' ⟨s0, s1, s2, s3⟩
              go_simp
              with_reducible rfl
            rotate_left
            · simp only [Act.put, List.setIfInBounds_toArray, List.set_cons_zero, List.set_cons_succ, iR, iT]
              rfl
            refine kF (i := 4) (N := some 35) (v := ?_) (a' := ?_) #[true, true, true, false, true, true, true, false, false, false, false, false, false, false, false, false, false, false, false, false, false] rfl rfl (jK HT_.out HW_.out (by kernel_rfl)) (fun _ _ _ h => h) (Or.inl ⟨by rfl, ?_⟩) hHeld ?_ ?_
            rotate_left
            · rintro w' ⟨s0, s1, s2, s3⟩
              go_simp
              with_reducible rfl
            rotate_left
            · simp only [Act.put, List.setIfInBounds_toArray, List.set_cons_zero, List.set_cons_succ, iR, iT]
              rfl
            refine one_ (i := 3) (N := some 34) #[true, true, true, true, true, true, true, false, false, false, false, false, false, false, false, false, false, false, false, false, false] rfl rfl (jS HT_.out (by kernel_rfl)) (by decide) (fun K hK => ?_)
            refine kK Try.func23 (by kernel_rfl) rfl #[.agg #[.int .u32 a0_0, .slice A0_1 l0_1.length c0_1], .slice A2 l2.length c2, .int .i64 a3] (by rfl) rfl rfl (by (try simp only [List.map_toArray, List.map_cons, List.map_nil]); first | done | rfl | (simp only [List.length_drop, List.length_take]; rfl)) ?_
            with_reducible refine (spans_Parts.calls kj6 a0_0 _ _ l0_1 _ _ l2 a3 t415 _ ?side1 ?side2 ?side3 ?side4 A26.out).mono ?_
            (case side1 => repeat (first | exact (Kd.C_below HR0_1.out HB.out) | (with_reducible refine Kd.C_alloc ?_ _) | (with_reducible refine Kd.C_drewN ?_ _) | (with_reducible refine Kd.C_drew ?_)))
            (case side2 => exact HC0_1.out)
            (case side3 => repeat (first | exact (Kd.C_below HR2.out HB.out) | (with_reducible refine Kd.C_alloc ?_ _) | (with_reducible refine Kd.C_drewN ?_ _) | (with_reducible refine Kd.C_drew ?_)))
            (case side4 => exact HC2.out)
            rintro e w35 ⟨v416, rfl, ho0, hb⟩
            refine ⟨_, rfl, ?_⟩
            have n0_ := iC.mk (Kd.R_below (by (with_reducible repeat (first | apply Kd.R_alloc | apply Kd.R_drewN | apply Kd.R_drew)); exact HO413.out) hb)
            have n1_ := iC.mk (Kd.N_lower (Kd.N_mono (ok' := fun k_ => some k_ ≠ (.slice Ao25 t411.length co25 : Value).ownBlock ∧ k_ ≠ gb407 ∧ k_ ≠ gb414) (Kd.R_N (Kd.R_bound ho0)) (fun k_ hk_ => ⟨(Kd.fresh' (Kd.R_lt (by (with_reducible repeat (first | apply Kd.R_alloc | apply Kd.R_drewN | apply Kd.R_drew)); exact HO413.out)) k_ hk_.2.1), (Kd.freshB (g := gb407) (o := .cells #[.int .u32 a0_0, .slice A0_1 l0_1.length c0_1] 42 (0, 0)) (bk_ BK407.out) k_ hk_.2.1), (Kd.freshB (g := gb414) (o := .cells #[.int .u32 t410, .slice Ao25 t411.length co25] 42 (0, 0)) (bk_ BK414.out) k_ hk_.2.1)⟩)) (iJ (by repeat (first | (with_reducible first | exact HB.out | apply iG | apply iD | apply iF | refine iE ?_ GE407.out | refine iE ?_ GE414.out) | exact HB.out))))
            have n2_ := iC.mk (iP (g := gb407) (o := .cells #[.int .u32 a0_0, .slice A0_1 l0_1.length c0_1] 42 (0, 0)) (bk_ BK407.out) hb)
            have n3_ := iC.mk (iP (g := gb414) (o := .cells #[.int .u32 t410, .slice Ao25 t411.length co25] 42 (0, 0)) (bk_ BK414.out) hb)
            have n4_ := iC.mk (iM (by repeat (first | (with_reducible first | exact HB.out | apply iG | apply iD | apply iF | refine iE ?_ GE407.out | refine iE ?_ GE414.out) | exact HB.out)) hb)
            clear HO413
            clear BK407
            clear BK414
            clear HB
            have HO413 := n0_
            have HO417 := n1_
            have BK407 := n2_
            have BK414 := n3_
            have HB := n4_
            clear n0_ n1_ n2_ n3_ n4_
            (try clear hb)
            (try clear hb2)
            (try clear hk)
            (try clear hi)
            (try clear ho0)
            refine hK.out _ _ ⟨(iH BK407.out 0).trans rfl, (iH BK407.out 1).trans rfl, (iH BK414.out 0).trans rfl, (iH BK414.out 1).trans rfl⟩ (fun hHeld => ?_)
            clear hK K
            refine jT (a' := ?_) ?_ ?_
            rotate_left
            · show Act.put _ (some 34) _ = _
              simp only [Act.put, List.setIfInBounds_toArray, List.set_cons_zero, List.set_cons_succ, iR, iT]
              rfl
            refine one_ (i := 7) (N := some 38) #[true, true, true, true, true, true, true, true, false, false, false, false, false, false, false, false, false, false, false, false, false] rfl rfl (jS HT_.out (by kernel_rfl)) (by decide) (fun K hK => ?_)
            refine kK Try.func24 (by kernel_rfl) rfl #[.agg #[.int .u32 a0_0, .slice A0_1 l0_1.length c0_1], .slice A2 l2.length c2, .int .i64 a3] (by rfl) rfl rfl (by (try simp only [List.map_toArray, List.map_cons, List.map_nil]); first | done | rfl | (simp only [List.length_drop, List.length_take]; rfl)) ?_
            with_reducible refine (stratumref12_Parts.calls kj6 a0_0 _ _ l0_1 (fun k_ => k_ < w.heap.size) _ _ l2 a3 t418 _ ?side1 ?side2 ?side3 A27.out).mono ?_
            (case side1 => repeat (first | exact (Kd.C_below HR0_1.out HB.out) | (with_reducible refine Kd.C_alloc ?_ _) | (with_reducible refine Kd.C_drewN ?_ _) | (with_reducible refine Kd.C_drew ?_)))
            (case side2 => exact HC0_1.out)
            (case side3 => exact Kd.V_mk HC2.out (Kd.F_below (Kd.C_F lF HR2.out) (by repeat (first | (with_reducible first | exact HB.out | apply iG | apply iD | apply iF | refine iE ?_ GE407.out | refine iE ?_ GE414.out) | exact HB.out))))
            rintro e w36 ⟨v419, rfl, ho0, hb⟩
            refine ⟨_, rfl, ?_⟩
            have n0_ := iC.mk (Kd.R_below (by (with_reducible repeat (first | apply Kd.R_alloc | apply Kd.R_drewN | apply Kd.R_drew)); exact HO413.out) hb)
            have n1_ := iC.mk (Kd.N_elder' (by (with_reducible repeat (first | apply Kd.N_alloc | apply Kd.N_drewN | apply Kd.N_drew)); exact HO417.out) (by first | exact Kd.R_base ho0 | exact Kd.N_base ho0) hb)
            have n2_ := iC.mk (Kd.N_lower (Kd.N_mono (ok' := fun k_ => some k_ ≠ (.slice Ao25 t411.length co25 : Value).ownBlock ∧ some k_ ≠ (v416 : Value).ownBlock ∧ k_ ≠ gb407 ∧ k_ ≠ gb414) ho0 (fun k_ hk_ => ⟨Or.elim hk_ (fun hs_ => fun e_ => Nat.not_le.2 hs_ (Kd.R_base HO413.out k_ e_.symm)) (fun hn_ => (Kd.fresh' (Kd.R_lt (by (with_reducible repeat (first | apply Kd.R_alloc | apply Kd.R_drewN | apply Kd.R_drew)); exact HO413.out)) k_ hn_)), Or.elim hk_ (fun hs_ => fun e_ => Nat.not_le.2 hs_ (Kd.N_base HO417.out k_ e_.symm)) (fun hn_ => (Kd.fresh' (Kd.N_lt (by (with_reducible repeat (first | apply Kd.N_alloc | apply Kd.N_drewN | apply Kd.N_drew)); exact HO417.out)) k_ hn_)), Or.elim hk_ (fun hs_ => fun e_ => Nat.not_le.2 hs_ (by rw [e_]; exact GW407.out)) (fun hn_ => (Kd.freshB (g := gb407) (o := .cells #[.int .u32 a0_0, .slice A0_1 l0_1.length c0_1] 42 (0, 0)) (bk_ BK407.out) k_ hn_)), Or.elim hk_ (fun hs_ => fun e_ => Nat.not_le.2 hs_ (by rw [e_]; exact GW414.out)) (fun hn_ => (Kd.freshB (g := gb414) (o := .cells #[.int .u32 t410, .slice Ao25 t411.length co25] 42 (0, 0)) (bk_ BK414.out) k_ hn_))⟩)) (iJ (by repeat (first | (with_reducible first | exact HB.out | apply iG | apply iD | apply iF | refine iE ?_ GE407.out | refine iE ?_ GE414.out) | exact HB.out))))
            have n3_ := iC.mk (iP (g := gb407) (o := .cells #[.int .u32 a0_0, .slice A0_1 l0_1.length c0_1] 42 (0, 0)) (bk_ BK407.out) hb)
            have n4_ := iC.mk (iP (g := gb414) (o := .cells #[.int .u32 t410, .slice Ao25 t411.length co25] 42 (0, 0)) (bk_ BK414.out) hb)
            have n5_ := iC.mk (iM (by repeat (first | (with_reducible first | exact HB.out | apply iG | apply iD | apply iF | refine iE ?_ GE407.out | refine iE ?_ GE414.out) | exact HB.out)) hb)
            clear HO413
            clear HO417
            clear BK407
            clear BK414
            clear HB
            have HO413 := n0_
            have HO417 := n1_
            have HO420 := n2_
            have BK407 := n3_
            have BK414 := n4_
            have HB := n5_
            clear n0_ n1_ n2_ n3_ n4_ n5_
            (try clear hb)
            (try clear hb2)
            (try clear hk)
            (try clear hi)
            (try clear ho0)
            obtain ⟨Ao37, co37, eo37⟩ := Kd.N_slice HO417.out
            (first | subst eo37 | (injection eo37 with f1_ f2_ f3_; have f4_ := f1_.symm; have f5_ := f3_.symm; clear f1_ f2_ f3_; subst f4_; subst f5_))
            obtain ⟨Ao38, co38, eo38⟩ := Kd.N_slice HO420.out
            (first | subst eo38 | (injection eo38 with f1_ f2_ f3_; have f4_ := f1_.symm; have f5_ := f3_.symm; clear f1_ f2_ f3_; subst f4_; subst f5_))
            refine hK.out _ _ ⟨(iH BK407.out 0).trans rfl, (iH BK407.out 1).trans rfl, (iH BK414.out 0).trans rfl, (iH BK414.out 1).trans rfl⟩ (fun hHeld => ?_)
            clear hK K
            refine jT (a' := ?_) ?_ ?_
            rotate_left
            · show Act.put _ (some 38) _ = _
              simp only [Act.put, List.setIfInBounds_toArray, List.set_cons_zero, List.set_cons_succ, iR, iT]
              rfl
            refine one_ (i := 8) (N := some 39) #[true, true, true, true, true, true, true, true, true, false, false, false, false, false, false, false, false, false, false, false, false] rfl rfl (jS HT_.out (by kernel_rfl)) (by decide) (fun K hK => ?_)
            refine kK Try.func22 (by kernel_rfl) rfl #[.slice Ao37 t415.length co37, .slice Ao38 t418.length co38] (by rfl) rfl rfl (by (try simp only [List.map_toArray, List.map_cons, List.map_nil]); first | done | rfl | (simp only [List.length_drop, List.length_take]; rfl)) ?_
            with_reducible refine (stratumref07_SameFacts.calls kj6 _ _ t415 _ _ t418 true _ ?side1 ?side2 ?side3 ?side4 A28.out).mono ?_
            (case side1 => repeat (first | exact (Kd.N_reads' HO417.out).2.2 | (with_reducible refine Kd.C_alloc ?_ _) | (with_reducible refine Kd.C_drewN ?_ _) | (with_reducible refine Kd.C_drew ?_)))
            (case side2 => exact (Kd.N_reads' HO417.out).2.1)
            (case side3 => repeat (first | exact (Kd.N_reads' HO420.out).2.2 | (with_reducible refine Kd.C_alloc ?_ _) | (with_reducible refine Kd.C_drewN ?_ _) | (with_reducible refine Kd.C_drew ?_)))
            (case side4 => exact (Kd.N_reads' HO420.out).2.1)
            rintro e w39 ⟨rfl, hb⟩
            refine ⟨_, rfl, ?_⟩
            have n0_ := iC.mk (Kd.R_below (by (with_reducible repeat (first | apply Kd.R_alloc | apply Kd.R_drewN | apply Kd.R_drew)); exact HO413.out) hb)
            have n1_ := iC.mk (Kd.N_below (by (with_reducible repeat (first | apply Kd.N_alloc | apply Kd.N_drewN | apply Kd.N_drew)); exact HO417.out) hb)
            have n2_ := iC.mk (Kd.N_below (by (with_reducible repeat (first | apply Kd.N_alloc | apply Kd.N_drewN | apply Kd.N_drew)); exact HO420.out) hb)
            have n3_ := iC.mk (iP (g := gb407) (o := .cells #[.int .u32 a0_0, .slice A0_1 l0_1.length c0_1] 42 (0, 0)) (bk_ BK407.out) hb)
            have n4_ := iC.mk (iP (g := gb414) (o := .cells #[.int .u32 t410, .slice Ao25 t411.length co25] 42 (0, 0)) (bk_ BK414.out) hb)
            have n5_ := iC.mk (iM (by repeat (first | (with_reducible first | exact HB.out | apply iG | apply iD | apply iF | refine iE ?_ GE407.out | refine iE ?_ GE414.out) | exact HB.out)) hb)
            clear HO413
            clear HO417
            clear HO420
            clear BK407
            clear BK414
            clear HB
            have HO413 := n0_
            have HO417 := n1_
            have HO420 := n2_
            have BK407 := n3_
            have BK414 := n4_
            have HB := n5_
            clear n0_ n1_ n2_ n3_ n4_ n5_
            (try clear hb)
            (try clear hb2)
            (try clear hk)
            (try clear hi)
            refine hK.out _ _ ⟨(iH BK407.out 0).trans rfl, (iH BK407.out 1).trans rfl, (iH BK414.out 0).trans rfl, (iH BK414.out 1).trans rfl⟩ (fun hHeld => ?_)
            clear hK K
            refine jT (a' := ?_) ?_ ?_
            rotate_left
            · show Act.put _ (some 39) _ = _
              simp only [Act.put, List.setIfInBounds_toArray, List.set_cons_zero, List.set_cons_succ, iR, iT]
              rfl
            refine jA (i := 9) (N := some 40) (v := ?_) (a' := ?_) #[true, true, true, true, true, true, true, true, true, true, false, false, false, false, false, false, false, false, false, false, false] rfl rfl (iQ HT_.out (by kernel_rfl)) (fun _ _ _ h => h) (Or.inl ⟨by rfl, ?_⟩) ?_ ?_
            rotate_left
            · intro w'
              go_simp
              with_reducible rfl
            rotate_left
            · simp only [Act.put, List.setIfInBounds_toArray, List.set_cons_zero, List.set_cons_succ, iR, iT]
              rfl
            refine jA (i := 11) (N := some 42) (v := ?_) (a' := ?_) #[true, true, true, true, true, true, true, true, true, true, false, true, false, false, false, false, false, false, false, false, false] rfl rfl (iQ HT_.out (by kernel_rfl)) (fun _ _ _ h => h) (Or.inl ⟨by rfl, ?_⟩) ?_ ?_
            rotate_left
            · intro w'
              go_simp
              with_reducible rfl
            rotate_left
            · simp only [Act.put, List.setIfInBounds_toArray, List.set_cons_zero, List.set_cons_succ, iR, iT]
              rfl
            refine jA (i := 12) (N := some 43) (v := ?_) (a' := ?_) #[true, true, true, true, true, true, true, true, true, true, false, true, true, false, false, false, false, false, false, false, false] rfl rfl (iQ HT_.out (by kernel_rfl)) (fun _ _ _ h => h) (Or.inl ⟨by rfl, ?_⟩) ?_ ?_
            rotate_left
            · intro w'
              go_simp
              with_reducible rfl
            rotate_left
            · simp only [Act.put, List.setIfInBounds_toArray, List.set_cons_zero, List.set_cons_succ, iR, iT]
              rfl
            refine jA (i := 15) (N := some 46) (v := ?_) (a' := ?_) #[true, true, true, true, true, true, true, true, true, true, false, true, true, false, false, true, false, false, false, false, false] rfl rfl (iQ HT_.out (by kernel_rfl)) (fun _ _ _ h => h) (Or.inl ⟨by rfl, ?_⟩) ?_ ?_
            rotate_left
            · intro w'
              go_simp
              with_reducible rfl
            rotate_left
            · simp only [Act.put, List.setIfInBounds_toArray, List.set_cons_zero, List.set_cons_succ, iR, iT]
              rfl
            refine jA (i := 16) (N := some 47) (v := ?_) (a' := ?_) #[true, true, true, true, true, true, true, true, true, true, false, true, true, false, false, true, true, false, false, false, false] rfl rfl (iQ HT_.out (by kernel_rfl)) (fun _ _ _ h => h) (Or.inl ⟨by rfl, ?_⟩) ?_ ?_
            rotate_left
            · intro w'
              go_simp
              with_reducible rfl
            rotate_left
            · simp only [Act.put, List.setIfInBounds_toArray, List.set_cons_zero, List.set_cons_succ, iR, iT]
              rfl
            refine kF (i := 10) (N := some 41) (v := ?_) (a' := ?_) #[true, true, true, true, true, true, true, true, true, true, true, true, true, false, false, true, true, false, false, false, false] rfl rfl (jK HT_.out HW_.out (by kernel_rfl)) (fun _ _ _ h => h) (Or.inl ⟨by rfl, ?_⟩) hHeld ?_ ?_
            rotate_left
            · rintro w' ⟨s0, s1, s2, s3⟩
              go_simp
              with_reducible rfl
            rotate_left
            · simp only [Act.put, List.setIfInBounds_toArray, List.set_cons_zero, List.set_cons_succ, iR, iT]
              rfl
            refine kF (i := 14) (N := some 45) (v := ?_) (a' := ?_) #[true, true, true, true, true, true, true, true, true, true, true, true, true, false, true, true, true, false, false, false, false] rfl rfl (jK HT_.out HW_.out (by kernel_rfl)) (fun _ _ _ h => h) (Or.inl ⟨by rfl, ?_⟩) hHeld ?_ ?_
            rotate_left
            · rintro w' ⟨s0, s1, s2, s3⟩
              go_simp
              with_reducible rfl
            rotate_left
            · simp only [Act.put, List.setIfInBounds_toArray, List.set_cons_zero, List.set_cons_succ, iR, iT]
              rfl
            refine one_ (i := 13) (N := some 44) #[true, true, true, true, true, true, true, true, true, true, true, true, true, true, true, true, true, false, false, false, false] rfl rfl (jS HT_.out (by kernel_rfl)) (by decide) (fun K hK => ?_)
            refine kK Try.func23 (by kernel_rfl) rfl #[.agg #[.int .u32 t410, .slice Ao25 t411.length co25], .slice A2 l2.length c2, .int .i64 a3] (by rfl) rfl rfl (by (try simp only [List.map_toArray, List.map_cons, List.map_nil]); first | done | rfl | (simp only [List.length_drop, List.length_take]; rfl)) ?_
            with_reducible refine (spans_Parts.calls kj6 t410 _ _ t411 _ _ l2 a3 t422 _ ?side1 ?side2 ?side3 ?side4 A30.out).mono ?_
            (case side1 => repeat (first | exact (Kd.R_reads' HO413.out).2.2 | (with_reducible refine Kd.C_alloc ?_ _) | (with_reducible refine Kd.C_drewN ?_ _) | (with_reducible refine Kd.C_drew ?_)))
            (case side2 => exact (Kd.R_reads' HO413.out).2.1)
            (case side3 => repeat (first | exact (Kd.C_below HR2.out HB.out) | (with_reducible refine Kd.C_alloc ?_ _) | (with_reducible refine Kd.C_drewN ?_ _) | (with_reducible refine Kd.C_drew ?_)))
            (case side4 => exact HC2.out)
            rintro e w40 ⟨v423, rfl, ho0, hb⟩
            refine ⟨_, rfl, ?_⟩
            have n0_ := iC.mk (Kd.R_below (by (with_reducible repeat (first | apply Kd.R_alloc | apply Kd.R_drewN | apply Kd.R_drew)); exact HO413.out) hb)
            have n1_ := iC.mk (Kd.N_elder' (by (with_reducible repeat (first | apply Kd.N_alloc | apply Kd.N_drewN | apply Kd.N_drew)); exact HO417.out) (by first | exact Kd.R_base ho0 | exact Kd.N_base ho0) hb)
            have n2_ := iC.mk (Kd.N_elder' (by (with_reducible repeat (first | apply Kd.N_alloc | apply Kd.N_drewN | apply Kd.N_drew)); exact HO420.out) (by first | exact Kd.R_base ho0 | exact Kd.N_base ho0) hb)
            have n3_ := iC.mk (Kd.N_lower (Kd.N_mono (ok' := fun k_ => some k_ ≠ (.slice Ao25 t411.length co25 : Value).ownBlock ∧ some k_ ≠ (.slice Ao37 t415.length co37 : Value).ownBlock ∧ some k_ ≠ (.slice Ao38 t418.length co38 : Value).ownBlock ∧ k_ ≠ gb407 ∧ k_ ≠ gb414) (Kd.R_N (Kd.R_bound ho0)) (fun k_ hk_ => ⟨(Kd.fresh' (Kd.R_lt (by (with_reducible repeat (first | apply Kd.R_alloc | apply Kd.R_drewN | apply Kd.R_drew)); exact HO413.out)) k_ hk_.2.1), (Kd.fresh' (Kd.N_lt (by (with_reducible repeat (first | apply Kd.N_alloc | apply Kd.N_drewN | apply Kd.N_drew)); exact HO417.out)) k_ hk_.2.1), (Kd.fresh' (Kd.N_lt (by (with_reducible repeat (first | apply Kd.N_alloc | apply Kd.N_drewN | apply Kd.N_drew)); exact HO420.out)) k_ hk_.2.1), (Kd.freshB (g := gb407) (o := .cells #[.int .u32 a0_0, .slice A0_1 l0_1.length c0_1] 42 (0, 0)) (bk_ BK407.out) k_ hk_.2.1), (Kd.freshB (g := gb414) (o := .cells #[.int .u32 t410, .slice Ao25 t411.length co25] 42 (0, 0)) (bk_ BK414.out) k_ hk_.2.1)⟩)) (iJ (by repeat (first | (with_reducible first | exact HB.out | apply iG | apply iD | apply iF | refine iE ?_ GE407.out | refine iE ?_ GE414.out) | exact HB.out))))
            have n4_ := iC.mk (iP (g := gb407) (o := .cells #[.int .u32 a0_0, .slice A0_1 l0_1.length c0_1] 42 (0, 0)) (bk_ BK407.out) hb)
            have n5_ := iC.mk (iP (g := gb414) (o := .cells #[.int .u32 t410, .slice Ao25 t411.length co25] 42 (0, 0)) (bk_ BK414.out) hb)
            have n6_ := iC.mk (iM (by repeat (first | (with_reducible first | exact HB.out | apply iG | apply iD | apply iF | refine iE ?_ GE407.out | refine iE ?_ GE414.out) | exact HB.out)) hb)
            clear HO413
            clear HO417
            clear HO420
            clear BK407
            clear BK414
            clear HB
            have HO413 := n0_
            have HO417 := n1_
            have HO420 := n2_
            have HO424 := n3_
            have BK407 := n4_
            have BK414 := n5_
            have HB := n6_
            clear n0_ n1_ n2_ n3_ n4_ n5_ n6_
            (try clear hb)
            (try clear hb2)
            (try clear hk)
            (try clear hi)
            (try clear ho0)
            refine hK.out _ _ ⟨(iH BK407.out 0).trans rfl, (iH BK407.out 1).trans rfl, (iH BK414.out 0).trans rfl, (iH BK414.out 1).trans rfl⟩ (fun hHeld => ?_)
            clear hK K
            refine jT (a' := ?_) ?_ ?_
            rotate_left
            · show Act.put _ (some 44) _ = _
              simp only [Act.put, List.setIfInBounds_toArray, List.set_cons_zero, List.set_cons_succ, iR, iT]
              rfl
            refine one_ (i := 17) (N := some 48) #[true, true, true, true, true, true, true, true, true, true, true, true, true, true, true, true, true, true, false, false, false] rfl rfl (jS HT_.out (by kernel_rfl)) (by decide) (fun K hK => ?_)
            refine kK Try.func24 (by kernel_rfl) rfl #[.agg #[.int .u32 t410, .slice Ao25 t411.length co25], .slice A2 l2.length c2, .int .i64 a3] (by rfl) rfl rfl (by (try simp only [List.map_toArray, List.map_cons, List.map_nil]); first | done | rfl | (simp only [List.length_drop, List.length_take]; rfl)) ?_
            with_reducible refine (stratumref12_Parts.calls kj6 t410 _ _ t411 (fun k_ => k_ < w.heap.size) _ _ l2 a3 t425 _ ?side1 ?side2 ?side3 A31.out).mono ?_
            (case side1 => repeat (first | exact (Kd.R_reads' HO413.out).2.2 | (with_reducible refine Kd.C_alloc ?_ _) | (with_reducible refine Kd.C_drewN ?_ _) | (with_reducible refine Kd.C_drew ?_)))
            (case side2 => exact (Kd.R_reads' HO413.out).2.1)
            (case side3 => exact Kd.V_mk HC2.out (Kd.F_below (Kd.C_F lF HR2.out) (by repeat (first | (with_reducible first | exact HB.out | apply iG | apply iD | apply iF | refine iE ?_ GE407.out | refine iE ?_ GE414.out) | exact HB.out))))
            rintro e w41 ⟨v426, rfl, ho0, hb⟩
            refine ⟨_, rfl, ?_⟩
            have n0_ := iC.mk (Kd.R_below (by (with_reducible repeat (first | apply Kd.R_alloc | apply Kd.R_drewN | apply Kd.R_drew)); exact HO413.out) hb)
            have n1_ := iC.mk (Kd.N_elder' (by (with_reducible repeat (first | apply Kd.N_alloc | apply Kd.N_drewN | apply Kd.N_drew)); exact HO417.out) (by first | exact Kd.R_base ho0 | exact Kd.N_base ho0) hb)
            have n2_ := iC.mk (Kd.N_elder' (by (with_reducible repeat (first | apply Kd.N_alloc | apply Kd.N_drewN | apply Kd.N_drew)); exact HO420.out) (by first | exact Kd.R_base ho0 | exact Kd.N_base ho0) hb)
            have n3_ := iC.mk (Kd.N_elder' (by (with_reducible repeat (first | apply Kd.N_alloc | apply Kd.N_drewN | apply Kd.N_drew)); exact HO424.out) (by first | exact Kd.R_base ho0 | exact Kd.N_base ho0) hb)
            have n4_ := iC.mk (Kd.N_lower (Kd.N_mono (ok' := fun k_ => some k_ ≠ (.slice Ao25 t411.length co25 : Value).ownBlock ∧ some k_ ≠ (.slice Ao37 t415.length co37 : Value).ownBlock ∧ some k_ ≠ (.slice Ao38 t418.length co38 : Value).ownBlock ∧ some k_ ≠ (v423 : Value).ownBlock ∧ k_ ≠ gb407 ∧ k_ ≠ gb414) ho0 (fun k_ hk_ => ⟨Or.elim hk_ (fun hs_ => fun e_ => Nat.not_le.2 hs_ (Kd.R_base HO413.out k_ e_.symm)) (fun hn_ => (Kd.fresh' (Kd.R_lt (by (with_reducible repeat (first | apply Kd.R_alloc | apply Kd.R_drewN | apply Kd.R_drew)); exact HO413.out)) k_ hn_)), Or.elim hk_ (fun hs_ => fun e_ => Nat.not_le.2 hs_ (Kd.N_base HO417.out k_ e_.symm)) (fun hn_ => (Kd.fresh' (Kd.N_lt (by (with_reducible repeat (first | apply Kd.N_alloc | apply Kd.N_drewN | apply Kd.N_drew)); exact HO417.out)) k_ hn_)), Or.elim hk_ (fun hs_ => fun e_ => Nat.not_le.2 hs_ (Kd.N_base HO420.out k_ e_.symm)) (fun hn_ => (Kd.fresh' (Kd.N_lt (by (with_reducible repeat (first | apply Kd.N_alloc | apply Kd.N_drewN | apply Kd.N_drew)); exact HO420.out)) k_ hn_)), Or.elim hk_ (fun hs_ => fun e_ => Nat.not_le.2 hs_ (Kd.N_base HO424.out k_ e_.symm)) (fun hn_ => (Kd.fresh' (Kd.N_lt (by (with_reducible repeat (first | apply Kd.N_alloc | apply Kd.N_drewN | apply Kd.N_drew)); exact HO424.out)) k_ hn_)), Or.elim hk_ (fun hs_ => fun e_ => Nat.not_le.2 hs_ (by rw [e_]; exact GW407.out)) (fun hn_ => (Kd.freshB (g := gb407) (o := .cells #[.int .u32 a0_0, .slice A0_1 l0_1.length c0_1] 42 (0, 0)) (bk_ BK407.out) k_ hn_)), Or.elim hk_ (fun hs_ => fun e_ => Nat.not_le.2 hs_ (by rw [e_]; exact GW414.out)) (fun hn_ => (Kd.freshB (g := gb414) (o := .cells #[.int .u32 t410, .slice Ao25 t411.length co25] 42 (0, 0)) (bk_ BK414.out) k_ hn_))⟩)) (iJ (by repeat (first | (with_reducible first | exact HB.out | apply iG | apply iD | apply iF | refine iE ?_ GE407.out | refine iE ?_ GE414.out) | exact HB.out))))
            have n5_ := iC.mk (iP (g := gb407) (o := .cells #[.int .u32 a0_0, .slice A0_1 l0_1.length c0_1] 42 (0, 0)) (bk_ BK407.out) hb)
            have n6_ := iC.mk (iP (g := gb414) (o := .cells #[.int .u32 t410, .slice Ao25 t411.length co25] 42 (0, 0)) (bk_ BK414.out) hb)
            have n7_ := iC.mk (iM (by repeat (first | (with_reducible first | exact HB.out | apply iG | apply iD | apply iF | refine iE ?_ GE407.out | refine iE ?_ GE414.out) | exact HB.out)) hb)
            clear HO413
            clear HO417
            clear HO420
            clear HO424
            clear BK407
            clear BK414
            clear HB
            have HO413 := n0_
            have HO417 := n1_
            have HO420 := n2_
            have HO424 := n3_
            have HO427 := n4_
            have BK407 := n5_
            have BK414 := n6_
            have HB := n7_
            clear n0_ n1_ n2_ n3_ n4_ n5_ n6_ n7_
            (try clear hb)
            (try clear hb2)
            (try clear hk)
            (try clear hi)
            (try clear ho0)
            obtain ⟨Ao42, co42, eo42⟩ := Kd.N_slice HO424.out
            (first | subst eo42 | (injection eo42 with f1_ f2_ f3_; have f4_ := f1_.symm; have f5_ := f3_.symm; clear f1_ f2_ f3_; subst f4_; subst f5_))
            obtain ⟨Ao43, co43, eo43⟩ := Kd.N_slice HO427.out
            (first | subst eo43 | (injection eo43 with f1_ f2_ f3_; have f4_ := f1_.symm; have f5_ := f3_.symm; clear f1_ f2_ f3_; subst f4_; subst f5_))
            refine hK.out _ _ ⟨(iH BK407.out 0).trans rfl, (iH BK407.out 1).trans rfl, (iH BK414.out 0).trans rfl, (iH BK414.out 1).trans rfl⟩ (fun hHeld => ?_)
            clear hK K
            refine jT (a' := ?_) ?_ ?_
            rotate_left
            · show Act.put _ (some 48) _ = _
              simp only [Act.put, List.setIfInBounds_toArray, List.set_cons_zero, List.set_cons_succ, iR, iT]
              rfl
            refine one_ (i := 18) (N := some 49) #[true, true, true, true, true, true, true, true, true, true, true, true, true, true, true, true, true, true, true, false, false] rfl rfl (jS HT_.out (by kernel_rfl)) (by decide) (fun K hK => ?_)
            refine kK Try.func22 (by kernel_rfl) rfl #[.slice Ao42 t422.length co42, .slice Ao43 t425.length co43] (by rfl) rfl rfl (by (try simp only [List.map_toArray, List.map_cons, List.map_nil]); first | done | rfl | (simp only [List.length_drop, List.length_take]; rfl)) ?_
            with_reducible refine (stratumref07_SameFacts.calls kj6 _ _ t422 _ _ t425 t428 _ ?side1 ?side2 ?side3 ?side4 A32.out).mono ?_
            (case side1 => repeat (first | exact (Kd.N_reads' HO424.out).2.2 | (with_reducible refine Kd.C_alloc ?_ _) | (with_reducible refine Kd.C_drewN ?_ _) | (with_reducible refine Kd.C_drew ?_)))
            (case side2 => exact (Kd.N_reads' HO424.out).2.1)
            (case side3 => repeat (first | exact (Kd.N_reads' HO427.out).2.2 | (with_reducible refine Kd.C_alloc ?_ _) | (with_reducible refine Kd.C_drewN ?_ _) | (with_reducible refine Kd.C_drew ?_)))
            (case side4 => exact (Kd.N_reads' HO427.out).2.1)
            rintro e w44 ⟨rfl, hb⟩
            refine ⟨_, rfl, ?_⟩
            have n0_ := iC.mk (Kd.R_below (by (with_reducible repeat (first | apply Kd.R_alloc | apply Kd.R_drewN | apply Kd.R_drew)); exact HO413.out) hb)
            have n1_ := iC.mk (Kd.N_below (by (with_reducible repeat (first | apply Kd.N_alloc | apply Kd.N_drewN | apply Kd.N_drew)); exact HO417.out) hb)
            have n2_ := iC.mk (Kd.N_below (by (with_reducible repeat (first | apply Kd.N_alloc | apply Kd.N_drewN | apply Kd.N_drew)); exact HO420.out) hb)
            have n3_ := iC.mk (Kd.N_below (by (with_reducible repeat (first | apply Kd.N_alloc | apply Kd.N_drewN | apply Kd.N_drew)); exact HO424.out) hb)
            have n4_ := iC.mk (Kd.N_below (by (with_reducible repeat (first | apply Kd.N_alloc | apply Kd.N_drewN | apply Kd.N_drew)); exact HO427.out) hb)
            have n5_ := iC.mk (iP (g := gb407) (o := .cells #[.int .u32 a0_0, .slice A0_1 l0_1.length c0_1] 42 (0, 0)) (bk_ BK407.out) hb)
            have n6_ := iC.mk (iP (g := gb414) (o := .cells #[.int .u32 t410, .slice Ao25 t411.length co25] 42 (0, 0)) (bk_ BK414.out) hb)
            have n7_ := iC.mk (iM (by repeat (first | (with_reducible first | exact HB.out | apply iG | apply iD | apply iF | refine iE ?_ GE407.out | refine iE ?_ GE414.out) | exact HB.out)) hb)
            clear HO413
            clear HO417
            clear HO420
            clear HO424
            clear HO427
            clear BK407
            clear BK414
            clear HB
            have HO413 := n0_
            have HO417 := n1_
            have HO420 := n2_
            have HO424 := n3_
            have HO427 := n4_
            have BK407 := n5_
            have BK414 := n6_
            have HB := n7_
            clear n0_ n1_ n2_ n3_ n4_ n5_ n6_ n7_
            (try clear hb)
            (try clear hb2)
            (try clear hk)
            (try clear hi)
            refine hK.out _ _ ⟨(iH BK407.out 0).trans rfl, (iH BK407.out 1).trans rfl, (iH BK414.out 0).trans rfl, (iH BK414.out 1).trans rfl⟩ (fun hHeld => ?_)
            clear hK K
            refine jT (a' := ?_) ?_ ?_
            rotate_left
            · show Act.put _ (some 49) _ = _
              simp only [Act.put, List.setIfInBounds_toArray, List.set_cons_zero, List.set_cons_succ, iR, iT]
              rfl
            refine jA (i := 19) (N := some 50) (v := ?_) (a' := ?_) #[true, true, true, true, true, true, true, true, true, true, true, true, true, true, true, true, true, true, true, true, false] rfl rfl (iQ HT_.out (by kernel_rfl)) (fun _ _ _ h => h) (Or.inl ⟨by rfl, ?_⟩) ?_ ?_
            rotate_left
            · intro w'
              go_simp
              with_reducible rfl
            rotate_left
            · simp only [Act.put, List.setIfInBounds_toArray, List.set_cons_zero, List.set_cons_succ, iR, iT]
              rfl
            refine jA (i := 20) (N := some 14) (v := ?_) (a' := ?_) #[true, true, true, true, true, true, true, true, true, true, true, true, true, true, true, true, true, true, true, true, true] rfl rfl (iQ HT_.out (by kernel_rfl)) (fun _ _ _ h => h) (Or.inl ⟨by rfl, ?_⟩) ?_ ?_
            rotate_left
            · intro w'
              go_simp
              with_reducible rfl
            rotate_left
            · simp only [Act.put, List.setIfInBounds_toArray, List.set_cons_zero, List.set_cons_succ, iR, iT]
              rfl
            refine lT (kH HT_.out (by kernel_rfl)) ?_
            try go_wp2
            go_meet
            case rel => exact ⟨_, (t428), (by first | rfl | (simp; done) | (simp [*]; done)), H', ⟨by have := HJ6.out; first | omega | exact Nat.le_refl _⟩, ⟨by (with_reducible repeat (first | apply Kd.R_alloc | apply Kd.R_drewN | apply Kd.R_drew)); exact HO413.out⟩, ⟨bk_ BK407.out⟩, ⟨bk_ BK414.out⟩, ⟨by repeat (first | (with_reducible first | exact HB.out | apply iG | apply iD | apply iF | refine iE ?_ GE407.out | refine iE ?_ GE414.out) | exact HB.out)⟩⟩
          · replace c29 := Bool.eq_false_iff.mpr c29
            subst c29
            have H1 : (stratumlaw12_SpansParts.j1 kj6 a4 a5 false a0_0 l0_1 t410 t411) = some r := by rw [if_neg (show ¬ (false = true) by decide)] at H; exact H
            clear H
            have H := H1
            clear H1
            have H' := iC.mk H
            clear H
            try go_wp2
            have n0_ : iC (Kd.R k96 96 ((w22.setCell ⟨gb414, 0, none⟩ (.int .u32 t410)).setCell ⟨gb414, 1, none⟩ (.slice Ao25 t411.length co25)) w.heap.size (fun _ => True) (.slice Ao25 t411.length co25) t411) := ⟨by (with_reducible repeat (first | apply Kd.R_alloc | apply Kd.R_drewN | apply Kd.R_drew)); exact Kd.R_mono (Kd.R_far (p := ⟨gb414, 1, none⟩) (Kd.R_far (p := ⟨gb414, 0, none⟩) (Kd.R_types HO413.out BK414.out (by decide)) (fun _ hk => hk.2) (.int .u32 t410)) (fun _ hk => hk.2) (.slice Ao25 t411.length co25)) (fun _ hk => trivial)⟩
            have n1_ : iC (((w22.setCell ⟨gb414, 0, none⟩ (.int .u32 t410)).setCell ⟨gb414, 1, none⟩ (.slice Ao25 t411.length co25)).heap[gb407]? = some (.cells #[.int .u32 a0_0, .slice A0_1 l0_1.length c0_1] 42 (0, 0))) := ⟨by (with_reducible repeat (first | refine iL ?_ _ | refine iO ?_ | refine iK ?_ _)); refine jI ?_ NB407_414.out _; (with_reducible repeat (first | refine iL ?_ _ | refine iO ?_ | refine iK ?_ _)); refine jI ?_ NB407_414.out _; (with_reducible repeat (first | refine iL ?_ _ | refine iO ?_ | refine iK ?_ _)); exact BK407.out⟩
            have n2_ : iC (((w22.setCell ⟨gb414, 0, none⟩ (.int .u32 t410)).setCell ⟨gb414, 1, none⟩ (.slice Ao25 t411.length co25)).heap[gb414]? = some (.cells #[.int .u32 t410, .slice Ao25 t411.length co25] 42 (0, 0))) := ⟨by (with_reducible repeat (first | refine iL ?_ _ | refine iO ?_ | refine iK ?_ _)); refine jC (cs := #[.int .u32 t410, .slice none 0 0]) ?_ 1 _ rfl; (with_reducible repeat (first | refine iL ?_ _ | refine iO ?_ | refine iK ?_ _)); refine jC (cs := #[.int .u32 0, .slice none 0 0]) ?_ 0 _ rfl; (with_reducible repeat (first | refine iL ?_ _ | refine iO ?_ | refine iK ?_ _)); exact BK414.out⟩
            have n3_ : iC (Below w.heap.size w ((w22.setCell ⟨gb414, 0, none⟩ (.int .u32 t410)).setCell ⟨gb414, 1, none⟩ (.slice Ao25 t411.length co25))) := ⟨by repeat (first | (with_reducible first | exact HB.out | apply iG | apply iD | apply iF | refine iE ?_ GE407.out | refine iE ?_ GE414.out) | exact HB.out)⟩
            (try clear HO413)
            (try clear BK407)
            (try clear BK414)
            (try clear HB)
            generalize ((w22.setCell ⟨gb414, 0, none⟩ (.int .u32 t410)).setCell ⟨gb414, 1, none⟩ (.slice Ao25 t411.length co25)) = w45 at n0_ n1_ n2_ n3_ ⊢
            have HO413 := n0_
            have BK407 := n1_
            have BK414 := n2_
            have HB := n3_
            clear n0_ n1_ n2_ n3_
            have n0_ := iC.mk (Kd.R_drew HO413.out)
            have n1_ := iC.mk (iO BK407.out)
            have n2_ := iC.mk (iO BK414.out)
            have n3_ := iC.mk (iF HB.out)
            clear HO413
            clear BK407
            clear BK414
            clear HB
            have HO413 := n0_
            have BK407 := n1_
            have BK414 := n2_
            have HB := n3_
            clear n0_ n1_ n2_ n3_
            refine kP (n := 21) (S := fun w' => w'.cell? ⟨gb407, 0, none⟩ = some (.int .u32 a0_0) ∧ w'.cell? ⟨gb407, 1, none⟩ = some (.slice A0_1 l0_1.length c0_1)) (ds := []) #[false, false, false, false, false, false, false, false, false, false, false, false, false, false, false, false, false, false, false, false, false] (by kernel_rfl) rfl rfl ⟨(iH BK407.out 0).trans rfl, (iH BK407.out 1).trans rfl⟩ (fun hHeld => ?_); refine jV stratumlaw12_SpansParts.tab4 stratumlaw12_SpansParts.bits4 (fun HT_ HW_ => ?_)
            generalize w45.drew = w46 at HO413 BK407 BK414 HB hHeld ⊢
            refine jA (i := 1) (N := some 32) (v := ?_) (a' := ?_) #[false, true, false, false, false, false, false, false, false, false, false, false, false, false, false, false, false, false, false, false, false] rfl rfl (iQ HT_.out (by kernel_rfl)) (fun _ _ _ h => h) (Or.inl ⟨by rfl, ?_⟩) ?_ ?_
            rotate_left
            · intro w'
              go_simp
              with_reducible rfl
            rotate_left
            · simp only [Act.put, List.setIfInBounds_toArray, List.set_cons_zero, List.set_cons_succ, iR, iT]
              rfl
            refine jA (i := 2) (N := some 33) (v := ?_) (a' := ?_) #[false, true, true, false, false, false, false, false, false, false, false, false, false, false, false, false, false, false, false, false, false] rfl rfl (iQ HT_.out (by kernel_rfl)) (fun _ _ _ h => h) (Or.inl ⟨by rfl, ?_⟩) ?_ ?_
            rotate_left
            · intro w'
              go_simp
              with_reducible rfl
            rotate_left
            · simp only [Act.put, List.setIfInBounds_toArray, List.set_cons_zero, List.set_cons_succ, iR, iT]
              rfl
            refine jA (i := 5) (N := some 36) (v := ?_) (a' := ?_) #[false, true, true, false, false, true, false, false, false, false, false, false, false, false, false, false, false, false, false, false, false] rfl rfl (iQ HT_.out (by kernel_rfl)) (fun _ _ _ h => h) (Or.inl ⟨by rfl, ?_⟩) ?_ ?_
            rotate_left
            · intro w'
              go_simp
              with_reducible rfl
            rotate_left
            · simp only [Act.put, List.setIfInBounds_toArray, List.set_cons_zero, List.set_cons_succ, iR, iT]
              rfl
            refine jA (i := 6) (N := some 37) (v := ?_) (a' := ?_) #[false, true, true, false, false, true, true, false, false, false, false, false, false, false, false, false, false, false, false, false, false] rfl rfl (iQ HT_.out (by kernel_rfl)) (fun _ _ _ h => h) (Or.inl ⟨by rfl, ?_⟩) ?_ ?_
            rotate_left
            · intro w'
              go_simp
              with_reducible rfl
            rotate_left
            · simp only [Act.put, List.setIfInBounds_toArray, List.set_cons_zero, List.set_cons_succ, iR, iT]
              rfl
            refine kF (i := 0) (N := some 31) (v := ?_) (a' := ?_) #[true, true, true, false, false, true, true, false, false, false, false, false, false, false, false, false, false, false, false, false, false] rfl rfl (jK HT_.out HW_.out (by kernel_rfl)) (fun _ _ _ h => h) (Or.inl ⟨by rfl, ?_⟩) hHeld ?_ ?_
            rotate_left
            · rintro w' ⟨s0, s1⟩
              go_simp
              with_reducible rfl
            rotate_left
            · simp only [Act.put, List.setIfInBounds_toArray, List.set_cons_zero, List.set_cons_succ, iR, iT]
              rfl
            refine kF (i := 4) (N := some 35) (v := ?_) (a' := ?_) #[true, true, true, false, true, true, true, false, false, false, false, false, false, false, false, false, false, false, false, false, false] rfl rfl (jK HT_.out HW_.out (by kernel_rfl)) (fun _ _ _ h => h) (Or.inl ⟨by rfl, ?_⟩) hHeld ?_ ?_
            rotate_left
            · rintro w' ⟨s0, s1⟩
              go_simp
              with_reducible rfl
            rotate_left
            · simp only [Act.put, List.setIfInBounds_toArray, List.set_cons_zero, List.set_cons_succ, iR, iT]
              rfl
            refine one_ (i := 3) (N := some 34) #[true, true, true, true, true, true, true, false, false, false, false, false, false, false, false, false, false, false, false, false, false] rfl rfl (jS HT_.out (by kernel_rfl)) (by decide) (fun K hK => ?_)
            refine kK Try.func23 (by kernel_rfl) rfl #[.agg #[.int .u32 a0_0, .slice A0_1 l0_1.length c0_1], .slice A2 l2.length c2, .int .i64 a3] (by rfl) rfl rfl (by (try simp only [List.map_toArray, List.map_cons, List.map_nil]); first | done | rfl | (simp only [List.length_drop, List.length_take]; rfl)) ?_
            with_reducible refine (spans_Parts.calls kj6 a0_0 _ _ l0_1 _ _ l2 a3 t415 _ ?side1 ?side2 ?side3 ?side4 A26.out).mono ?_
            (case side1 => repeat (first | exact (Kd.C_below HR0_1.out HB.out) | (with_reducible refine Kd.C_alloc ?_ _) | (with_reducible refine Kd.C_drewN ?_ _) | (with_reducible refine Kd.C_drew ?_)))
            (case side2 => exact HC0_1.out)
            (case side3 => repeat (first | exact (Kd.C_below HR2.out HB.out) | (with_reducible refine Kd.C_alloc ?_ _) | (with_reducible refine Kd.C_drewN ?_ _) | (with_reducible refine Kd.C_drew ?_)))
            (case side4 => exact HC2.out)
            rintro e w47 ⟨v416, rfl, ho0, hb⟩
            refine ⟨_, rfl, ?_⟩
            have n0_ := iC.mk (Kd.R_below (by (with_reducible repeat (first | apply Kd.R_alloc | apply Kd.R_drewN | apply Kd.R_drew)); exact HO413.out) hb)
            have n1_ := iC.mk (Kd.N_lower (Kd.N_mono (ok' := fun k_ => some k_ ≠ (.slice Ao25 t411.length co25 : Value).ownBlock ∧ k_ ≠ gb407 ∧ k_ ≠ gb414) (Kd.R_N (Kd.R_bound ho0)) (fun k_ hk_ => ⟨(Kd.fresh' (Kd.R_lt (by (with_reducible repeat (first | apply Kd.R_alloc | apply Kd.R_drewN | apply Kd.R_drew)); exact HO413.out)) k_ hk_.2.1), (Kd.freshB (g := gb407) (o := .cells #[.int .u32 a0_0, .slice A0_1 l0_1.length c0_1] 42 (0, 0)) (bk_ BK407.out) k_ hk_.2.1), (Kd.freshB (g := gb414) (o := .cells #[.int .u32 t410, .slice Ao25 t411.length co25] 42 (0, 0)) (bk_ BK414.out) k_ hk_.2.1)⟩)) (iJ (by repeat (first | (with_reducible first | exact HB.out | apply iG | apply iD | apply iF | refine iE ?_ GE407.out | refine iE ?_ GE414.out) | exact HB.out))))
            have n2_ := iC.mk (iP (g := gb407) (o := .cells #[.int .u32 a0_0, .slice A0_1 l0_1.length c0_1] 42 (0, 0)) (bk_ BK407.out) hb)
            have n3_ := iC.mk (iP (g := gb414) (o := .cells #[.int .u32 t410, .slice Ao25 t411.length co25] 42 (0, 0)) (bk_ BK414.out) hb)
            have n4_ := iC.mk (iM (by repeat (first | (with_reducible first | exact HB.out | apply iG | apply iD | apply iF | refine iE ?_ GE407.out | refine iE ?_ GE414.out) | exact HB.out)) hb)
            clear HO413
            clear BK407
            clear BK414
            clear HB
            have HO413 := n0_
            have HO417 := n1_
            have BK407 := n2_
            have BK414 := n3_
            have HB := n4_
            clear n0_ n1_ n2_ n3_ n4_
            (try clear hb)
            (try clear hb2)
            (try clear hk)
            (try clear hi)
            (try clear ho0)
            refine hK.out _ _ ⟨(iH BK407.out 0).trans rfl, (iH BK407.out 1).trans rfl⟩ (fun hHeld => ?_)
            clear hK K
            refine jT (a' := ?_) ?_ ?_
            rotate_left
            · show Act.put _ (some 34) _ = _
              simp only [Act.put, List.setIfInBounds_toArray, List.set_cons_zero, List.set_cons_succ, iR, iT]
              rfl
            refine one_ (i := 7) (N := some 38) #[true, true, true, true, true, true, true, true, false, false, false, false, false, false, false, false, false, false, false, false, false] rfl rfl (jS HT_.out (by kernel_rfl)) (by decide) (fun K hK => ?_)
            refine kK Try.func24 (by kernel_rfl) rfl #[.agg #[.int .u32 a0_0, .slice A0_1 l0_1.length c0_1], .slice A2 l2.length c2, .int .i64 a3] (by rfl) rfl rfl (by (try simp only [List.map_toArray, List.map_cons, List.map_nil]); first | done | rfl | (simp only [List.length_drop, List.length_take]; rfl)) ?_
            with_reducible refine (stratumref12_Parts.calls kj6 a0_0 _ _ l0_1 (fun k_ => k_ < w.heap.size) _ _ l2 a3 t418 _ ?side1 ?side2 ?side3 A27.out).mono ?_
            (case side1 => repeat (first | exact (Kd.C_below HR0_1.out HB.out) | (with_reducible refine Kd.C_alloc ?_ _) | (with_reducible refine Kd.C_drewN ?_ _) | (with_reducible refine Kd.C_drew ?_)))
            (case side2 => exact HC0_1.out)
            (case side3 => exact Kd.V_mk HC2.out (Kd.F_below (Kd.C_F lF HR2.out) (by repeat (first | (with_reducible first | exact HB.out | apply iG | apply iD | apply iF | refine iE ?_ GE407.out | refine iE ?_ GE414.out) | exact HB.out))))
            rintro e w48 ⟨v419, rfl, ho0, hb⟩
            refine ⟨_, rfl, ?_⟩
            have n0_ := iC.mk (Kd.R_below (by (with_reducible repeat (first | apply Kd.R_alloc | apply Kd.R_drewN | apply Kd.R_drew)); exact HO413.out) hb)
            have n1_ := iC.mk (Kd.N_elder' (by (with_reducible repeat (first | apply Kd.N_alloc | apply Kd.N_drewN | apply Kd.N_drew)); exact HO417.out) (by first | exact Kd.R_base ho0 | exact Kd.N_base ho0) hb)
            have n2_ := iC.mk (Kd.N_lower (Kd.N_mono (ok' := fun k_ => some k_ ≠ (.slice Ao25 t411.length co25 : Value).ownBlock ∧ some k_ ≠ (v416 : Value).ownBlock ∧ k_ ≠ gb407 ∧ k_ ≠ gb414) ho0 (fun k_ hk_ => ⟨Or.elim hk_ (fun hs_ => fun e_ => Nat.not_le.2 hs_ (Kd.R_base HO413.out k_ e_.symm)) (fun hn_ => (Kd.fresh' (Kd.R_lt (by (with_reducible repeat (first | apply Kd.R_alloc | apply Kd.R_drewN | apply Kd.R_drew)); exact HO413.out)) k_ hn_)), Or.elim hk_ (fun hs_ => fun e_ => Nat.not_le.2 hs_ (Kd.N_base HO417.out k_ e_.symm)) (fun hn_ => (Kd.fresh' (Kd.N_lt (by (with_reducible repeat (first | apply Kd.N_alloc | apply Kd.N_drewN | apply Kd.N_drew)); exact HO417.out)) k_ hn_)), Or.elim hk_ (fun hs_ => fun e_ => Nat.not_le.2 hs_ (by rw [e_]; exact GW407.out)) (fun hn_ => (Kd.freshB (g := gb407) (o := .cells #[.int .u32 a0_0, .slice A0_1 l0_1.length c0_1] 42 (0, 0)) (bk_ BK407.out) k_ hn_)), Or.elim hk_ (fun hs_ => fun e_ => Nat.not_le.2 hs_ (by rw [e_]; exact GW414.out)) (fun hn_ => (Kd.freshB (g := gb414) (o := .cells #[.int .u32 t410, .slice Ao25 t411.length co25] 42 (0, 0)) (bk_ BK414.out) k_ hn_))⟩)) (iJ (by repeat (first | (with_reducible first | exact HB.out | apply iG | apply iD | apply iF | refine iE ?_ GE407.out | refine iE ?_ GE414.out) | exact HB.out))))
            have n3_ := iC.mk (iP (g := gb407) (o := .cells #[.int .u32 a0_0, .slice A0_1 l0_1.length c0_1] 42 (0, 0)) (bk_ BK407.out) hb)
            have n4_ := iC.mk (iP (g := gb414) (o := .cells #[.int .u32 t410, .slice Ao25 t411.length co25] 42 (0, 0)) (bk_ BK414.out) hb)
            have n5_ := iC.mk (iM (by repeat (first | (with_reducible first | exact HB.out | apply iG | apply iD | apply iF | refine iE ?_ GE407.out | refine iE ?_ GE414.out) | exact HB.out)) hb)
            clear HO413
            clear HO417
            clear BK407
            clear BK414
            clear HB
            have HO413 := n0_
            have HO417 := n1_
            have HO420 := n2_
            have BK407 := n3_
            have BK414 := n4_
            have HB := n5_
            clear n0_ n1_ n2_ n3_ n4_ n5_
            (try clear hb)
            (try clear hb2)
            (try clear hk)
            (try clear hi)
            (try clear ho0)
            obtain ⟨Ao49, co49, eo49⟩ := Kd.N_slice HO417.out
            (first | subst eo49 | (injection eo49 with f1_ f2_ f3_; have f4_ := f1_.symm; have f5_ := f3_.symm; clear f1_ f2_ f3_; subst f4_; subst f5_))
            obtain ⟨Ao50, co50, eo50⟩ := Kd.N_slice HO420.out
            (first | subst eo50 | (injection eo50 with f1_ f2_ f3_; have f4_ := f1_.symm; have f5_ := f3_.symm; clear f1_ f2_ f3_; subst f4_; subst f5_))
            refine hK.out _ _ ⟨(iH BK407.out 0).trans rfl, (iH BK407.out 1).trans rfl⟩ (fun hHeld => ?_)
            clear hK K
            refine jT (a' := ?_) ?_ ?_
            rotate_left
            · show Act.put _ (some 38) _ = _
              simp only [Act.put, List.setIfInBounds_toArray, List.set_cons_zero, List.set_cons_succ, iR, iT]
              rfl
            refine one_ (i := 8) (N := some 39) #[true, true, true, true, true, true, true, true, true, false, false, false, false, false, false, false, false, false, false, false, false] rfl rfl (jS HT_.out (by kernel_rfl)) (by decide) (fun K hK => ?_)
            refine kK Try.func22 (by kernel_rfl) rfl #[.slice Ao49 t415.length co49, .slice Ao50 t418.length co50] (by rfl) rfl rfl (by (try simp only [List.map_toArray, List.map_cons, List.map_nil]); first | done | rfl | (simp only [List.length_drop, List.length_take]; rfl)) ?_
            with_reducible refine (stratumref07_SameFacts.calls kj6 _ _ t415 _ _ t418 false _ ?side1 ?side2 ?side3 ?side4 A28.out).mono ?_
            (case side1 => repeat (first | exact (Kd.N_reads' HO417.out).2.2 | (with_reducible refine Kd.C_alloc ?_ _) | (with_reducible refine Kd.C_drewN ?_ _) | (with_reducible refine Kd.C_drew ?_)))
            (case side2 => exact (Kd.N_reads' HO417.out).2.1)
            (case side3 => repeat (first | exact (Kd.N_reads' HO420.out).2.2 | (with_reducible refine Kd.C_alloc ?_ _) | (with_reducible refine Kd.C_drewN ?_ _) | (with_reducible refine Kd.C_drew ?_)))
            (case side4 => exact (Kd.N_reads' HO420.out).2.1)
            rintro e w51 ⟨rfl, hb⟩
            refine ⟨_, rfl, ?_⟩
            have n0_ := iC.mk (Kd.R_below (by (with_reducible repeat (first | apply Kd.R_alloc | apply Kd.R_drewN | apply Kd.R_drew)); exact HO413.out) hb)
            have n1_ := iC.mk (Kd.N_below (by (with_reducible repeat (first | apply Kd.N_alloc | apply Kd.N_drewN | apply Kd.N_drew)); exact HO417.out) hb)
            have n2_ := iC.mk (Kd.N_below (by (with_reducible repeat (first | apply Kd.N_alloc | apply Kd.N_drewN | apply Kd.N_drew)); exact HO420.out) hb)
            have n3_ := iC.mk (iP (g := gb407) (o := .cells #[.int .u32 a0_0, .slice A0_1 l0_1.length c0_1] 42 (0, 0)) (bk_ BK407.out) hb)
            have n4_ := iC.mk (iP (g := gb414) (o := .cells #[.int .u32 t410, .slice Ao25 t411.length co25] 42 (0, 0)) (bk_ BK414.out) hb)
            have n5_ := iC.mk (iM (by repeat (first | (with_reducible first | exact HB.out | apply iG | apply iD | apply iF | refine iE ?_ GE407.out | refine iE ?_ GE414.out) | exact HB.out)) hb)
            clear HO413
            clear HO417
            clear HO420
            clear BK407
            clear BK414
            clear HB
            have HO413 := n0_
            have HO417 := n1_
            have HO420 := n2_
            have BK407 := n3_
            have BK414 := n4_
            have HB := n5_
            clear n0_ n1_ n2_ n3_ n4_ n5_
            (try clear hb)
            (try clear hb2)
            (try clear hk)
            (try clear hi)
            refine hK.out _ _ ⟨(iH BK407.out 0).trans rfl, (iH BK407.out 1).trans rfl⟩ (fun hHeld => ?_)
            clear hK K
            refine jT (a' := ?_) ?_ ?_
            rotate_left
            · show Act.put _ (some 39) _ = _
              simp only [Act.put, List.setIfInBounds_toArray, List.set_cons_zero, List.set_cons_succ, iR, iT]
              rfl
            refine jA (i := 9) (N := some 40) (v := ?_) (a' := ?_) #[true, true, true, true, true, true, true, true, true, true, false, false, false, false, false, false, false, false, false, false, false] rfl rfl (iQ HT_.out (by kernel_rfl)) (fun _ _ _ h => h) (Or.inl ⟨by rfl, ?_⟩) ?_ ?_
            rotate_left
            · intro w'
              go_simp
              with_reducible rfl
            rotate_left
            · simp only [Act.put, List.setIfInBounds_toArray, List.set_cons_zero, List.set_cons_succ, iR, iT]
              rfl
            refine jA (i := 10) (N := some 41) (v := undef) (a' := ?_) #[true, true, true, true, true, true, true, true, true, true, true, false, false, false, false, false, false, false, false, false, false] rfl rfl (iQ HT_.out (by kernel_rfl)) (fun _ _ _ h => h) (Or.inr ⟨by rfl, rfl⟩) ?_ ?_
            rotate_left
            · simp only [Act.put, List.setIfInBounds_toArray, List.set_cons_zero, List.set_cons_succ, iR, iT]
              rfl
            refine jA (i := 11) (N := some 42) (v := undef) (a' := ?_) #[true, true, true, true, true, true, true, true, true, true, true, true, false, false, false, false, false, false, false, false, false] rfl rfl (iQ HT_.out (by kernel_rfl)) (fun _ _ _ h => h) (Or.inr ⟨by rfl, rfl⟩) ?_ ?_
            rotate_left
            · simp only [Act.put, List.setIfInBounds_toArray, List.set_cons_zero, List.set_cons_succ, iR, iT]
              rfl
            refine jA (i := 12) (N := some 43) (v := undef) (a' := ?_) #[true, true, true, true, true, true, true, true, true, true, true, true, true, false, false, false, false, false, false, false, false] rfl rfl (iQ HT_.out (by kernel_rfl)) (fun _ _ _ h => h) (Or.inr ⟨by rfl, rfl⟩) ?_ ?_
            rotate_left
            · simp only [Act.put, List.setIfInBounds_toArray, List.set_cons_zero, List.set_cons_succ, iR, iT]
              rfl
            refine jA (i := 13) (N := some 44) (v := undef) (a' := ?_) #[true, true, true, true, true, true, true, true, true, true, true, true, true, true, false, false, false, false, false, false, false] rfl rfl (iQ HT_.out (by kernel_rfl)) (fun _ _ _ h => h) (Or.inr ⟨by rfl, rfl⟩) ?_ ?_
            rotate_left
            · simp only [Act.put, List.setIfInBounds_toArray, List.set_cons_zero, List.set_cons_succ, iR, iT]
              rfl
            refine jA (i := 14) (N := some 45) (v := undef) (a' := ?_) #[true, true, true, true, true, true, true, true, true, true, true, true, true, true, true, false, false, false, false, false, false] rfl rfl (iQ HT_.out (by kernel_rfl)) (fun _ _ _ h => h) (Or.inr ⟨by rfl, rfl⟩) ?_ ?_
            rotate_left
            · simp only [Act.put, List.setIfInBounds_toArray, List.set_cons_zero, List.set_cons_succ, iR, iT]
              rfl
            refine jA (i := 15) (N := some 46) (v := undef) (a' := ?_) #[true, true, true, true, true, true, true, true, true, true, true, true, true, true, true, true, false, false, false, false, false] rfl rfl (iQ HT_.out (by kernel_rfl)) (fun _ _ _ h => h) (Or.inr ⟨by rfl, rfl⟩) ?_ ?_
            rotate_left
            · simp only [Act.put, List.setIfInBounds_toArray, List.set_cons_zero, List.set_cons_succ, iR, iT]
              rfl
            refine jA (i := 16) (N := some 47) (v := undef) (a' := ?_) #[true, true, true, true, true, true, true, true, true, true, true, true, true, true, true, true, true, false, false, false, false] rfl rfl (iQ HT_.out (by kernel_rfl)) (fun _ _ _ h => h) (Or.inr ⟨by rfl, rfl⟩) ?_ ?_
            rotate_left
            · simp only [Act.put, List.setIfInBounds_toArray, List.set_cons_zero, List.set_cons_succ, iR, iT]
              rfl
            refine jA (i := 17) (N := some 48) (v := undef) (a' := ?_) #[true, true, true, true, true, true, true, true, true, true, true, true, true, true, true, true, true, true, false, false, false] rfl rfl (iQ HT_.out (by kernel_rfl)) (fun _ _ _ h => h) (Or.inr ⟨by rfl, rfl⟩) ?_ ?_
            rotate_left
            · simp only [Act.put, List.setIfInBounds_toArray, List.set_cons_zero, List.set_cons_succ, iR, iT]
              rfl
            refine jA (i := 18) (N := some 49) (v := undef) (a' := ?_) #[true, true, true, true, true, true, true, true, true, true, true, true, true, true, true, true, true, true, true, false, false] rfl rfl (iQ HT_.out (by kernel_rfl)) (fun _ _ _ h => h) (Or.inr ⟨by rfl, rfl⟩) ?_ ?_
            rotate_left
            · simp only [Act.put, List.setIfInBounds_toArray, List.set_cons_zero, List.set_cons_succ, iR, iT]
              rfl
            refine jA (i := 19) (N := some 50) (v := ?_) (a' := ?_) #[true, true, true, true, true, true, true, true, true, true, true, true, true, true, true, true, true, true, true, true, false] rfl rfl (iQ HT_.out (by kernel_rfl)) (fun _ _ _ h => h) (Or.inl ⟨by rfl, ?_⟩) ?_ ?_
            rotate_left
            · intro w'
              go_simp
              with_reducible rfl
            rotate_left
            · simp only [Act.put, List.setIfInBounds_toArray, List.set_cons_zero, List.set_cons_succ, iR, iT]
              rfl
            refine jA (i := 20) (N := some 14) (v := ?_) (a' := ?_) #[true, true, true, true, true, true, true, true, true, true, true, true, true, true, true, true, true, true, true, true, true] rfl rfl (iQ HT_.out (by kernel_rfl)) (fun _ _ _ h => h) (Or.inl ⟨by rfl, ?_⟩) ?_ ?_
            rotate_left
            · intro w'
              go_simp
              with_reducible rfl
            rotate_left
            · simp only [Act.put, List.setIfInBounds_toArray, List.set_cons_zero, List.set_cons_succ, iR, iT]
              rfl
            refine lT (kH HT_.out (by kernel_rfl)) ?_
            try go_wp2
            go_meet
            case rel => exact ⟨_, (false), (by first | rfl | (simp; done) | (simp [*]; done)), H', ⟨by have := HJ6.out; first | omega | exact Nat.le_refl _⟩, ⟨by (with_reducible repeat (first | apply Kd.R_alloc | apply Kd.R_drewN | apply Kd.R_drew)); exact HO413.out⟩, ⟨bk_ BK407.out⟩, ⟨bk_ BK414.out⟩, ⟨by repeat (first | (with_reducible first | exact HB.out | apply iG | apply iD | apply iF | refine iE ?_ GE407.out | refine iE ?_ GE414.out) | exact HB.out)⟩⟩
        case rest =>
          clear HC20
          try clear c2
          try clear p2
          try clear c22
          try clear c23
          try clear c24
          try clear c29
          obtain ⟨kq, x14_19, rfl, HA, HJ19, HO_415001, BK407, BK414, HB⟩ := hcut
          cases kq with
          | zero => exact absurd HA.out (by simp [stratumlaw12_SpansParts.j1])
          | succ kj19 =>
            have H := HA.out
            clear HA
            simp only [stratumlaw12_SpansParts.j1] at H
            have HC52 := iC.mk H
            clear H
            go_upto_region 5 with (fail)
            go_cut [64] (fun v64 wc => ∃ (kq : Nat) (x64_51 : Bool), v64 = .bool x64_51 ∧ iC (stratumlaw12_SpansParts.j2 kq a4 a5 x14_19 x64_51 a0_0 l0_1 t410 t411 = some r) ∧ iC (kq ≤ kj19) ∧ iC (Kd.R k96 96 wc w.heap.size (fun _ => True) (.slice Ao25 t411.length co25) t411) ∧ iC (wc.heap[gb407]? = some (.cells #[.int .u32 a0_0, (.slice A0_1 l0_1.length c0_1)] 42 (0, 0))) ∧ iC (wc.heap[gb414]? = some (.cells #[.int .u32 t410, (.slice Ao25 t411.length co25)] 42 (0, 0))) ∧ iC (Below w.heap.size w wc))
            case first =>
              have H := HC52.out
              clear HC52
              by_cases c53 : a4 < (-100)
              · rw [if_pos c53] at H
                have c53b0 : decide (a4 < (-100)) = true := decide_eq_true c53
                clear c53
                (first | rw [c53b0] | (simp only [iR, iT]; rw [c53b0]) | skip)
                have H' := iC.mk H
                clear H
                go_wp2
                go_meet
                case rel => exact ⟨_, (true), (by first | rfl | (simp; done) | (simp [*]; done)), H', ⟨by have := HJ6.out; have := HJ19.out; first | omega | exact Nat.le_refl _⟩, ⟨by (with_reducible repeat (first | apply Kd.R_alloc | apply Kd.R_drewN | apply Kd.R_drew)); exact HO_415001.out⟩, ⟨bk_ BK407.out⟩, ⟨bk_ BK414.out⟩, ⟨by repeat (first | (with_reducible first | exact HB.out | apply iG | apply iD | apply iF | refine iE ?_ GE407.out | refine iE ?_ GE414.out) | exact HB.out)⟩⟩
              · rw [if_neg c53] at H
                have c53b0 : decide (a4 < (-100)) = false := decide_eq_false c53
                clear c53
                (first | rw [c53b0] | (simp only [iR, iT]; rw [c53b0]) | skip)
                by_cases c54 : a4 > 10100
                · rw [if_pos c54] at H
                  have c54b0 : decide (10100 < a4) = true := decide_eq_true c54
                  clear c54
                  have H' := iC.mk H
                  clear H
                  go_wp2
                  go_meet
                  case rel => exact ⟨_, (true), (by first | rfl | (simp; done) | (simp [*]; done)), H', ⟨by have := HJ6.out; have := HJ19.out; first | omega | exact Nat.le_refl _⟩, ⟨by (with_reducible repeat (first | apply Kd.R_alloc | apply Kd.R_drewN | apply Kd.R_drew)); exact HO_415001.out⟩, ⟨bk_ BK407.out⟩, ⟨bk_ BK414.out⟩, ⟨by repeat (first | (with_reducible first | exact HB.out | apply iG | apply iD | apply iF | refine iE ?_ GE407.out | refine iE ?_ GE414.out) | exact HB.out)⟩⟩
                · rw [if_neg c54] at H
                  have c54b0 : decide (10100 < a4) = false := decide_eq_false c54
                  clear c54
                  by_cases c55 : a5 < (-100)
                  · rw [if_pos c55] at H
                    have c55b0 : decide (a5 < (-100)) = true := decide_eq_true c55
                    clear c55
                    have H' := iC.mk H
                    clear H
                    go_wp2
                    go_meet
                    case rel => exact ⟨_, (true), (by first | rfl | (simp; done) | (simp [*]; done)), H', ⟨by have := HJ6.out; have := HJ19.out; first | omega | exact Nat.le_refl _⟩, ⟨by (with_reducible repeat (first | apply Kd.R_alloc | apply Kd.R_drewN | apply Kd.R_drew)); exact HO_415001.out⟩, ⟨bk_ BK407.out⟩, ⟨bk_ BK414.out⟩, ⟨by repeat (first | (with_reducible first | exact HB.out | apply iG | apply iD | apply iF | refine iE ?_ GE407.out | refine iE ?_ GE414.out) | exact HB.out)⟩⟩
                  · rw [if_neg c55] at H
                    have c55b0 : decide (a5 < (-100)) = false := decide_eq_false c55
                    clear c55
                    have H' := iC.mk H
                    clear H
                    go_wp2
                    go_meet
                    case rel => exact ⟨_, (decide (a5 > 10100)), (by first | rfl | (simp; done) | (simp [*]; done)), H', ⟨by have := HJ6.out; have := HJ19.out; first | omega | exact Nat.le_refl _⟩, ⟨by (with_reducible repeat (first | apply Kd.R_alloc | apply Kd.R_drewN | apply Kd.R_drew)); exact HO_415001.out⟩, ⟨bk_ BK407.out⟩, ⟨bk_ BK414.out⟩, ⟨by repeat (first | (with_reducible first | exact HB.out | apply iG | apply iD | apply iF | refine iE ?_ GE407.out | refine iE ?_ GE414.out) | exact HB.out)⟩⟩
            case rest =>
              clear HC52
              try clear c2
              try clear p2
              try clear c5
              try clear c22
              try clear c23
              try clear c24
              try clear c29
              try clear c53
              try clear c53b0
              try clear c54
              try clear c54b0
              try clear c55
              try clear c55b0
              try clear p2
              obtain ⟨kq, x64_51, rfl, HA, HJ51, HO_415001, BK407, BK414, HB⟩ := hcut
              cases kq with
              | zero => exact absurd HA.out (by simp [stratumlaw12_SpansParts.j2])
              | succ kj51 =>
                have H := HA.out
                clear HA
                simp only [stratumlaw12_SpansParts.j2] at H
                by_cases c56 : x64_51 = true
                · subst c56
                  have H1 : (some x14_19) = some r := by rw [if_pos rfl] at H; exact H
                  clear H
                  have H := H1
                  clear H1
                  obtain rfl := Option.some.inj H
                  go_wp2
                  go_ret
                  exact ⟨by first | rfl | (simp [iU, iV] <;> rfl) | (simp [*, iU, iV] <;> rfl), by repeat (first | (with_reducible first | exact HB.out | apply iG | apply iD | apply iF | refine iE ?_ GE407.out | refine iE ?_ GE414.out) | exact HB.out)⟩
                · replace c56 := Bool.eq_false_iff.mpr c56
                  subst c56
                  have H1 : (if x14_19 = true then ((spans_Nodes.f t410 t411 (Int.tmod a4 200) (Int.tmod a5 200)).bind fun t429 => ((stratumref12_Nodes.f kj51 t410 t411 (Int.tmod a4 200) (Int.tmod a5 200)).bind fun t432 => ((stratumref07_SameInts.f kj51 t429 t432).bind fun t435 => (if t435 = true then ((spans_Nodes.f a0_0 l0_1 (Int.tmod a4 50) (Int.tmod a5 50)).bind fun t436 => ((stratumref12_Nodes.f kj51 a0_0 l0_1 (Int.tmod a4 50) (Int.tmod a5 50)).bind fun t439 => ((stratumref07_SameInts.f kj51 t436 t439).bind fun t442 => (some t442)))) else (some false))))) else (some false)) = some r := by rw [if_neg (show ¬ (false = true) by decide)] at H; exact H
                  clear H
                  have H := H1
                  clear H1
                  by_cases c57 : x14_19 = true
                  · subst c57
                    have H1 : ((spans_Nodes.f t410 t411 (Int.tmod a4 200) (Int.tmod a5 200)).bind fun t429 => ((stratumref12_Nodes.f kj51 t410 t411 (Int.tmod a4 200) (Int.tmod a5 200)).bind fun t432 => ((stratumref07_SameInts.f kj51 t429 t432).bind fun t435 => (if t435 = true then ((spans_Nodes.f a0_0 l0_1 (Int.tmod a4 50) (Int.tmod a5 50)).bind fun t436 => ((stratumref12_Nodes.f kj51 a0_0 l0_1 (Int.tmod a4 50) (Int.tmod a5 50)).bind fun t439 => ((stratumref07_SameInts.f kj51 t436 t439).bind fun t442 => (some t442)))) else (some false))))) = some r := by rw [if_pos rfl] at H; exact H
                    clear H
                    have H := H1
                    clear H1
                    replace H := Option.bind_eq_some_iff.mp H
                    obtain ⟨t429, A580, H⟩ := H
                    replace H : ((stratumref12_Nodes.f kj51 t410 t411 (Int.tmod a4 200) (Int.tmod a5 200)).bind fun t432 => ((stratumref07_SameInts.f kj51 t429 t432).bind fun t435 => (if t435 = true then ((spans_Nodes.f a0_0 l0_1 (Int.tmod a4 50) (Int.tmod a5 50)).bind fun t436 => ((stratumref12_Nodes.f kj51 a0_0 l0_1 (Int.tmod a4 50) (Int.tmod a5 50)).bind fun t439 => ((stratumref07_SameInts.f kj51 t436 t439).bind fun t442 => (some t442)))) else (some false)))) = some r := H
                    have A58 := iC.mk A580
                    clear A580
                    replace H := Option.bind_eq_some_iff.mp H
                    obtain ⟨t432, A590, H⟩ := H
                    replace H : ((stratumref07_SameInts.f kj51 t429 t432).bind fun t435 => (if t435 = true then ((spans_Nodes.f a0_0 l0_1 (Int.tmod a4 50) (Int.tmod a5 50)).bind fun t436 => ((stratumref12_Nodes.f kj51 a0_0 l0_1 (Int.tmod a4 50) (Int.tmod a5 50)).bind fun t439 => ((stratumref07_SameInts.f kj51 t436 t439).bind fun t442 => (some t442)))) else (some false))) = some r := H
                    have A59 := iC.mk A590
                    clear A590
                    replace H := Option.bind_eq_some_iff.mp H
                    obtain ⟨t435, A600, H⟩ := H
                    replace H : (if t435 = true then ((spans_Nodes.f a0_0 l0_1 (Int.tmod a4 50) (Int.tmod a5 50)).bind fun t436 => ((stratumref12_Nodes.f kj51 a0_0 l0_1 (Int.tmod a4 50) (Int.tmod a5 50)).bind fun t439 => ((stratumref07_SameInts.f kj51 t436 t439).bind fun t442 => (some t442)))) else (some false)) = some r := H
                    have A60 := iC.mk A600
                    clear A600
                    by_cases c61 : t435 = true
                    · subst c61
                      have H1 : ((spans_Nodes.f a0_0 l0_1 (Int.tmod a4 50) (Int.tmod a5 50)).bind fun t436 => ((stratumref12_Nodes.f kj51 a0_0 l0_1 (Int.tmod a4 50) (Int.tmod a5 50)).bind fun t439 => ((stratumref07_SameInts.f kj51 t436 t439).bind fun t442 => (some t442)))) = some r := by rw [if_pos rfl] at H; exact H
                      clear H
                      have H := H1
                      clear H1
                      replace H := Option.bind_eq_some_iff.mp H
                      obtain ⟨t436, A620, H⟩ := H
                      replace H : ((stratumref12_Nodes.f kj51 a0_0 l0_1 (Int.tmod a4 50) (Int.tmod a5 50)).bind fun t439 => ((stratumref07_SameInts.f kj51 t436 t439).bind fun t442 => (some t442))) = some r := H
                      have A62 := iC.mk A620
                      clear A620
                      replace H := Option.bind_eq_some_iff.mp H
                      obtain ⟨t439, A630, H⟩ := H
                      replace H : ((stratumref07_SameInts.f kj51 t436 t439).bind fun t442 => (some t442)) = some r := H
                      have A63 := iC.mk A630
                      clear A630
                      replace H := Option.bind_eq_some_iff.mp H
                      obtain ⟨t442, A640, H⟩ := H
                      replace H : (some t442) = some r := H
                      have A64 := iC.mk A640
                      clear A640
                      obtain rfl := Option.some.inj H
                      try go_wp2
                      have n0_ := iC.mk (Kd.R_drew HO_415001.out)
                      have n1_ := iC.mk (iO BK407.out)
                      have n2_ := iC.mk (iO BK414.out)
                      have n3_ := iC.mk (iF HB.out)
                      clear HO_415001
                      clear BK407
                      clear BK414
                      clear HB
                      have HO_415001 := n0_
                      have BK407 := n1_
                      have BK414 := n2_
                      have HB := n3_
                      clear n0_ n1_ n2_ n3_
                      refine kP (n := 32) (S := fun w' => w'.cell? ⟨gb414, 0, none⟩ = some (.int .u32 t410) ∧ w'.cell? ⟨gb414, 1, none⟩ = some (.slice Ao25 t411.length co25) ∧ w'.cell? ⟨gb407, 0, none⟩ = some (.int .u32 a0_0) ∧ w'.cell? ⟨gb407, 1, none⟩ = some (.slice A0_1 l0_1.length c0_1)) (ds := []) #[false, false, false, false, false, false, false, false, false, false, false, false, false, false, false, false, false, false, false, false, false, false, false, false, false, false, false, false, false, false, false, false] (by kernel_rfl) rfl rfl ⟨(iH BK414.out 0).trans rfl, (iH BK414.out 1).trans rfl, (iH BK407.out 0).trans rfl, (iH BK407.out 1).trans rfl⟩ (fun hHeld => ?_); refine jV stratumlaw12_SpansParts.tab7 stratumlaw12_SpansParts.bits7 (fun HT_ HW_ => ?_)
                      generalize wc.drew = w65 at HO_415001 BK407 BK414 HB hHeld ⊢
                      refine jA (i := 0) (N := some 66) (v := ?_) (a' := ?_) #[true, false, false, false, false, false, false, false, false, false, false, false, false, false, false, false, false, false, false, false, false, false, false, false, false, false, false, false, false, false, false, false] rfl rfl (iQ HT_.out (by kernel_rfl)) (fun _ _ _ h => h) (Or.inl ⟨by rfl, ?_⟩) ?_ ?_
                      rotate_left
                      · intro w'
                        go_simp
                        with_reducible rfl
                      rotate_left
                      · simp only [Act.put, List.setIfInBounds_toArray, List.set_cons_zero, List.set_cons_succ, iR, iT]
                        rfl
                      refine jA (i := 1) (N := some 67) (v := ?_) (a' := ?_) #[true, true, false, false, false, false, false, false, false, false, false, false, false, false, false, false, false, false, false, false, false, false, false, false, false, false, false, false, false, false, false, false] rfl rfl (iQ HT_.out (by kernel_rfl)) (fun _ _ _ h => h) (Or.inl ⟨by rfl, ?_⟩) ?_ ?_
                      rotate_left
                      · intro w'
                        go_simp
                        with_reducible rfl
                      rotate_left
                      · simp only [Act.put, List.setIfInBounds_toArray, List.set_cons_zero, List.set_cons_succ, iR, iT]
                        rfl
                      refine jA (i := 3) (N := some 69) (v := ?_) (a' := ?_) #[true, true, false, true, false, false, false, false, false, false, false, false, false, false, false, false, false, false, false, false, false, false, false, false, false, false, false, false, false, false, false, false] rfl rfl (iQ HT_.out (by kernel_rfl)) (fun _ _ _ h => h) (Or.inl ⟨by rfl, ?_⟩) ?_ ?_
                      rotate_left
                      · intro w'
                        go_simp
                        with_reducible rfl
                      rotate_left
                      · simp only [Act.put, List.setIfInBounds_toArray, List.set_cons_zero, List.set_cons_succ, iR, iT]
                        rfl
                      refine jA (i := 4) (N := some 70) (v := ?_) (a' := ?_) #[true, true, false, true, true, false, false, false, false, false, false, false, false, false, false, false, false, false, false, false, false, false, false, false, false, false, false, false, false, false, false, false] rfl rfl (iQ HT_.out (by kernel_rfl)) (fun _ _ _ h => h) (Or.inl ⟨by rfl, ?_⟩) ?_ ?_
                      rotate_left
                      · intro w'
                        go_simp
                        with_reducible rfl
                      rotate_left
                      · simp only [Act.put, List.setIfInBounds_toArray, List.set_cons_zero, List.set_cons_succ, iR, iT]
                        rfl
                      refine jA (i := 5) (N := some 71) (v := ?_) (a' := ?_) #[true, true, false, true, true, true, false, false, false, false, false, false, false, false, false, false, false, false, false, false, false, false, false, false, false, false, false, false, false, false, false, false] rfl rfl (iQ HT_.out (by kernel_rfl)) (fun _ _ _ h => h) (Or.inl ⟨by rfl, ?_⟩) ?_ ?_
                      rotate_left
                      · intro w'
                        go_simp
                        with_reducible rfl
                      rotate_left
                      · simp only [Act.put, List.setIfInBounds_toArray, List.set_cons_zero, List.set_cons_succ, iR, iT]
                        rfl
                      refine jA (i := 6) (N := some 72) (v := ?_) (a' := ?_) #[true, true, false, true, true, true, true, false, false, false, false, false, false, false, false, false, false, false, false, false, false, false, false, false, false, false, false, false, false, false, false, false] rfl rfl (iQ HT_.out (by kernel_rfl)) (fun _ _ _ h => h) (Or.inl ⟨by rfl, ?_⟩) ?_ ?_
                      rotate_left
                      · intro w'
                        go_simp
                        with_reducible rfl
                      rotate_left
                      · simp only [Act.put, List.setIfInBounds_toArray, List.set_cons_zero, List.set_cons_succ, iR, iT]
                        rfl
                      refine jA (i := 9) (N := some 75) (v := ?_) (a' := ?_) #[true, true, false, true, true, true, true, false, false, true, false, false, false, false, false, false, false, false, false, false, false, false, false, false, false, false, false, false, false, false, false, false] rfl rfl (iQ HT_.out (by kernel_rfl)) (fun _ _ _ h => h) (Or.inl ⟨by rfl, ?_⟩) ?_ ?_
                      rotate_left
                      · intro w'
                        go_simp
                        with_reducible rfl
                      rotate_left
                      · simp only [Act.put, List.setIfInBounds_toArray, List.set_cons_zero, List.set_cons_succ, iR, iT]
                        rfl
                      refine jA (i := 10) (N := some 76) (v := ?_) (a' := ?_) #[true, true, false, true, true, true, true, false, false, true, true, false, false, false, false, false, false, false, false, false, false, false, false, false, false, false, false, false, false, false, false, false] rfl rfl (iQ HT_.out (by kernel_rfl)) (fun _ _ _ h => h) (Or.inl ⟨by rfl, ?_⟩) ?_ ?_
                      rotate_left
                      · intro w'
                        go_simp
                        with_reducible rfl
                      rotate_left
                      · simp only [Act.put, List.setIfInBounds_toArray, List.set_cons_zero, List.set_cons_succ, iR, iT]
                        rfl
                      refine jA (i := 11) (N := some 77) (v := ?_) (a' := ?_) #[true, true, false, true, true, true, true, false, false, true, true, true, false, false, false, false, false, false, false, false, false, false, false, false, false, false, false, false, false, false, false, false] rfl rfl (iQ HT_.out (by kernel_rfl)) (fun _ _ _ h => h) (Or.inl ⟨by rfl, ?_⟩) ?_ ?_
                      rotate_left
                      · intro w'
                        go_simp
                        with_reducible rfl
                      rotate_left
                      · simp only [Act.put, List.setIfInBounds_toArray, List.set_cons_zero, List.set_cons_succ, iR, iT]
                        rfl
                      refine jA (i := 12) (N := some 78) (v := ?_) (a' := ?_) #[true, true, false, true, true, true, true, false, false, true, true, true, true, false, false, false, false, false, false, false, false, false, false, false, false, false, false, false, false, false, false, false] rfl rfl (iQ HT_.out (by kernel_rfl)) (fun _ _ _ h => h) (Or.inl ⟨by rfl, ?_⟩) ?_ ?_
                      rotate_left
                      · intro w'
                        go_simp
                        with_reducible rfl
                      rotate_left
                      · simp only [Act.put, List.setIfInBounds_toArray, List.set_cons_zero, List.set_cons_succ, iR, iT]
                        rfl
                      refine kF (i := 2) (N := some 68) (v := ?_) (a' := ?_) #[true, true, true, true, true, true, true, false, false, true, true, true, true, false, false, false, false, false, false, false, false, false, false, false, false, false, false, false, false, false, false, false] rfl rfl (jK HT_.out HW_.out (by kernel_rfl)) (fun _ _ _ h => h) (Or.inl ⟨by rfl, ?_⟩) hHeld ?_ ?_
                      rotate_left
                      · rintro w' ⟨s0, s1, s2, s3⟩
                        go_simp
                        with_reducible rfl
                      rotate_left
                      · simp only [Act.put, List.setIfInBounds_toArray, List.set_cons_zero, List.set_cons_succ, iR, iT]
                        rfl
                      refine kF (i := 8) (N := some 74) (v := ?_) (a' := ?_) #[true, true, true, true, true, true, true, false, true, true, true, true, true, false, false, false, false, false, false, false, false, false, false, false, false, false, false, false, false, false, false, false] rfl rfl (jK HT_.out HW_.out (by kernel_rfl)) (fun _ _ _ h => h) (Or.inl ⟨by rfl, ?_⟩) hHeld ?_ ?_
                      rotate_left
                      · rintro w' ⟨s0, s1, s2, s3⟩
                        go_simp
                        with_reducible rfl
                      rotate_left
                      · simp only [Act.put, List.setIfInBounds_toArray, List.set_cons_zero, List.set_cons_succ, iR, iT]
                        rfl
                      refine one_ (i := 7) (N := some 73) #[true, true, true, true, true, true, true, true, true, true, true, true, true, false, false, false, false, false, false, false, false, false, false, false, false, false, false, false, false, false, false, false] rfl rfl (jS HT_.out (by kernel_rfl)) (by decide) (fun K hK => ?_)
                      refine kK Try.func26 (by kernel_rfl) rfl #[.agg #[.int .u32 t410, .slice Ao25 t411.length co25], .int .i64 (Int.tmod a4 200), .int .i64 (Int.tmod a5 200)] (by rfl) rfl rfl (by (try simp only [List.map_toArray, List.map_cons, List.map_nil]); first | done | rfl | (simp only [List.length_drop, List.length_take]; rfl)) ?_
                      with_reducible refine (spans_Nodes.calls t410 _ _ t411 (Int.tmod a4 200) (Int.tmod a5 200) t429 _ ?side1 ?side2 A58.out).mono ?_
                      (case side1 => repeat (first | exact (Kd.R_reads' HO_415001.out).2.2 | (with_reducible refine Kd.C_alloc ?_ _) | (with_reducible refine Kd.C_drewN ?_ _) | (with_reducible refine Kd.C_drew ?_)))
                      (case side2 => exact (Kd.R_reads' HO_415001.out).2.1)
                      rintro e w66 ⟨v430, rfl, ho0, hb⟩
                      refine ⟨_, rfl, ?_⟩
                      have n0_ := iC.mk (Kd.R_below (by (with_reducible repeat (first | apply Kd.R_alloc | apply Kd.R_drewN | apply Kd.R_drew)); exact HO_415001.out) hb)
                      have n1_ := iC.mk (Kd.R_lower ho0 (iJ (by repeat (first | (with_reducible first | exact HB.out | apply iG | apply iD | apply iF | refine iE ?_ GE407.out | refine iE ?_ GE414.out) | exact HB.out))))
                      have n2_ := iC.mk (iP (g := gb407) (o := .cells #[.int .u32 a0_0, .slice A0_1 l0_1.length c0_1] 42 (0, 0)) (bk_ BK407.out) hb)
                      have n3_ := iC.mk (iP (g := gb414) (o := .cells #[.int .u32 t410, .slice Ao25 t411.length co25] 42 (0, 0)) (bk_ BK414.out) hb)
                      have n4_ := iC.mk (iM (by repeat (first | (with_reducible first | exact HB.out | apply iG | apply iD | apply iF | refine iE ?_ GE407.out | refine iE ?_ GE414.out) | exact HB.out)) hb)
                      clear HO_415001
                      clear BK407
                      clear BK414
                      clear HB
                      have HO_415001 := n0_
                      have HO431 := n1_
                      have BK407 := n2_
                      have BK414 := n3_
                      have HB := n4_
                      clear n0_ n1_ n2_ n3_ n4_
                      (try clear hb)
                      (try clear hb2)
                      (try clear hk)
                      (try clear hi)
                      (try clear ho0)
                      refine hK.out _ _ ⟨(iH BK414.out 0).trans rfl, (iH BK414.out 1).trans rfl, (iH BK407.out 0).trans rfl, (iH BK407.out 1).trans rfl⟩ (fun hHeld => ?_)
                      clear hK K
                      refine jT (a' := ?_) ?_ ?_
                      rotate_left
                      · show Act.put _ (some 73) _ = _
                        simp only [Act.put, List.setIfInBounds_toArray, List.set_cons_zero, List.set_cons_succ, iR, iT]
                        rfl
                      refine one_ (i := 13) (N := some 79) #[true, true, true, true, true, true, true, true, true, true, true, true, true, true, false, false, false, false, false, false, false, false, false, false, false, false, false, false, false, false, false, false] rfl rfl (jS HT_.out (by kernel_rfl)) (by decide) (fun K hK => ?_)
                      refine kK Try.func27 (by kernel_rfl) rfl #[.agg #[.int .u32 t410, .slice Ao25 t411.length co25], .int .i64 (Int.tmod a4 200), .int .i64 (Int.tmod a5 200)] (by rfl) rfl rfl (by (try simp only [List.map_toArray, List.map_cons, List.map_nil]); first | done | rfl | (simp only [List.length_drop, List.length_take]; rfl)) ?_
                      with_reducible refine (stratumref12_Nodes.calls kj51 t410 _ _ t411 (Int.tmod a4 200) (Int.tmod a5 200) t432 _ ?side1 ?side2 A59.out).mono ?_
                      (case side1 => repeat (first | exact (Kd.R_reads' HO_415001.out).2.2 | (with_reducible refine Kd.C_alloc ?_ _) | (with_reducible refine Kd.C_drewN ?_ _) | (with_reducible refine Kd.C_drew ?_)))
                      (case side2 => exact (Kd.R_reads' HO_415001.out).2.1)
                      rintro e w67 ⟨v433, rfl, ho0, hb⟩
                      refine ⟨_, rfl, ?_⟩
                      have n0_ := iC.mk (Kd.R_below (by (with_reducible repeat (first | apply Kd.R_alloc | apply Kd.R_drewN | apply Kd.R_drew)); exact HO_415001.out) hb)
                      have n1_ := iC.mk (Kd.R_elder' (by (with_reducible repeat (first | apply Kd.R_alloc | apply Kd.R_drewN | apply Kd.R_drew)); exact HO431.out) (Kd.R_base ho0) hb)
                      have n2_ := iC.mk (Kd.R_lower (Kd.R_new' ho0 (Kd.R_lt (by (with_reducible repeat (first | apply Kd.R_alloc | apply Kd.R_drewN | apply Kd.R_drew)); exact HO431.out))) (iJ (by repeat (first | (with_reducible first | exact HB.out | apply iG | apply iD | apply iF | refine iE ?_ GE407.out | refine iE ?_ GE414.out) | exact HB.out))))
                      have n3_ := iC.mk (iP (g := gb407) (o := .cells #[.int .u32 a0_0, .slice A0_1 l0_1.length c0_1] 42 (0, 0)) (bk_ BK407.out) hb)
                      have n4_ := iC.mk (iP (g := gb414) (o := .cells #[.int .u32 t410, .slice Ao25 t411.length co25] 42 (0, 0)) (bk_ BK414.out) hb)
                      have n5_ := iC.mk (iM (by repeat (first | (with_reducible first | exact HB.out | apply iG | apply iD | apply iF | refine iE ?_ GE407.out | refine iE ?_ GE414.out) | exact HB.out)) hb)
                      clear HO_415001
                      clear HO431
                      clear BK407
                      clear BK414
                      clear HB
                      have HO_415001 := n0_
                      have HO431 := n1_
                      have HO434 := n2_
                      have BK407 := n3_
                      have BK414 := n4_
                      have HB := n5_
                      clear n0_ n1_ n2_ n3_ n4_ n5_
                      (try clear hb)
                      (try clear hb2)
                      (try clear hk)
                      (try clear hi)
                      (try clear ho0)
                      obtain ⟨Ao68, co68, eo68⟩ := Kd.R_slice HO431.out
                      (first | subst eo68 | (injection eo68 with f1_ f2_ f3_; have f4_ := f1_.symm; have f5_ := f3_.symm; clear f1_ f2_ f3_; subst f4_; subst f5_))
                      obtain ⟨Ao69, co69, eo69⟩ := Kd.R_slice HO434.out
                      (first | subst eo69 | (injection eo69 with f1_ f2_ f3_; have f4_ := f1_.symm; have f5_ := f3_.symm; clear f1_ f2_ f3_; subst f4_; subst f5_))
                      refine hK.out _ _ ⟨(iH BK414.out 0).trans rfl, (iH BK414.out 1).trans rfl, (iH BK407.out 0).trans rfl, (iH BK407.out 1).trans rfl⟩ (fun hHeld => ?_)
                      clear hK K
                      refine jT (a' := ?_) ?_ ?_
                      rotate_left
                      · show Act.put _ (some 79) _ = _
                        simp only [Act.put, List.setIfInBounds_toArray, List.set_cons_zero, List.set_cons_succ, iR, iT]
                        rfl
                      refine one_ (i := 14) (N := some 80) #[true, true, true, true, true, true, true, true, true, true, true, true, true, true, true, false, false, false, false, false, false, false, false, false, false, false, false, false, false, false, false, false] rfl rfl (jS HT_.out (by kernel_rfl)) (by decide) (fun K hK => ?_)
                      refine kK Try.func25 (by kernel_rfl) rfl #[.slice Ao68 t429.length co68, .slice Ao69 t432.length co69] (by rfl) rfl rfl (by (try simp only [List.map_toArray, List.map_cons, List.map_nil]); first | done | rfl | (simp only [List.length_drop, List.length_take]; rfl)) ?_
                      with_reducible refine (stratumref07_SameInts.calls kj51 _ _ t429 _ _ t432 true _ ?side1 ?side2 ?side3 ?side4 A60.out).mono ?_
                      (case side1 => repeat (first | exact (Kd.R_reads' HO431.out).2.2 | (with_reducible refine Kd.C_alloc ?_ _) | (with_reducible refine Kd.C_drewN ?_ _) | (with_reducible refine Kd.C_drew ?_)))
                      (case side2 => exact (Kd.R_reads' HO431.out).2.1)
                      (case side3 => repeat (first | exact (Kd.R_reads' HO434.out).2.2 | (with_reducible refine Kd.C_alloc ?_ _) | (with_reducible refine Kd.C_drewN ?_ _) | (with_reducible refine Kd.C_drew ?_)))
                      (case side4 => exact (Kd.R_reads' HO434.out).2.1)
                      rintro e w' ⟨rfl, ⟨nd, rfl⟩⟩
                      refine ⟨_, rfl, ?_⟩
                      refine hK.out _ _ ⟨(iH BK414.out 0).trans rfl, (iH BK414.out 1).trans rfl, (iH BK407.out 0).trans rfl, (iH BK407.out 1).trans rfl⟩ (fun hHeld => ?_)
                      clear hK K
                      refine jT (a' := ?_) ?_ ?_
                      rotate_left
                      · show Act.put _ (some 80) _ = _
                        simp only [Act.put, List.setIfInBounds_toArray, List.set_cons_zero, List.set_cons_succ, iR, iT]
                        rfl
                      refine jA (i := 15) (N := some 81) (v := ?_) (a' := ?_) #[true, true, true, true, true, true, true, true, true, true, true, true, true, true, true, true, false, false, false, false, false, false, false, false, false, false, false, false, false, false, false, false] rfl rfl (iQ HT_.out (by kernel_rfl)) (fun _ _ _ h => h) (Or.inl ⟨by rfl, ?_⟩) ?_ ?_
                      rotate_left
                      · intro w'
                        go_simp
                        with_reducible rfl
                      rotate_left
                      · simp only [Act.put, List.setIfInBounds_toArray, List.set_cons_zero, List.set_cons_succ, iR, iT]
                        rfl
                      refine jA (i := 16) (N := some 82) (v := ?_) (a' := ?_) #[true, true, true, true, true, true, true, true, true, true, true, true, true, true, true, true, true, false, false, false, false, false, false, false, false, false, false, false, false, false, false, false] rfl rfl (iQ HT_.out (by kernel_rfl)) (fun _ _ _ h => h) (Or.inl ⟨by rfl, ?_⟩) ?_ ?_
                      rotate_left
                      · intro w'
                        go_simp
                        with_reducible rfl
                      rotate_left
                      · simp only [Act.put, List.setIfInBounds_toArray, List.set_cons_zero, List.set_cons_succ, iR, iT]
                        rfl
                      refine jA (i := 18) (N := some 84) (v := ?_) (a' := ?_) #[true, true, true, true, true, true, true, true, true, true, true, true, true, true, true, true, true, false, true, false, false, false, false, false, false, false, false, false, false, false, false, false] rfl rfl (iQ HT_.out (by kernel_rfl)) (fun _ _ _ h => h) (Or.inl ⟨by rfl, ?_⟩) ?_ ?_
                      rotate_left
                      · intro w'
                        go_simp
                        with_reducible rfl
                      rotate_left
                      · simp only [Act.put, List.setIfInBounds_toArray, List.set_cons_zero, List.set_cons_succ, iR, iT]
                        rfl
                      refine jA (i := 19) (N := some 85) (v := ?_) (a' := ?_) #[true, true, true, true, true, true, true, true, true, true, true, true, true, true, true, true, true, false, true, true, false, false, false, false, false, false, false, false, false, false, false, false] rfl rfl (iQ HT_.out (by kernel_rfl)) (fun _ _ _ h => h) (Or.inl ⟨by rfl, ?_⟩) ?_ ?_
                      rotate_left
                      · intro w'
                        go_simp
                        with_reducible rfl
                      rotate_left
                      · simp only [Act.put, List.setIfInBounds_toArray, List.set_cons_zero, List.set_cons_succ, iR, iT]
                        rfl
                      refine jA (i := 20) (N := some 86) (v := ?_) (a' := ?_) #[true, true, true, true, true, true, true, true, true, true, true, true, true, true, true, true, true, false, true, true, true, false, false, false, false, false, false, false, false, false, false, false] rfl rfl (iQ HT_.out (by kernel_rfl)) (fun _ _ _ h => h) (Or.inl ⟨by rfl, ?_⟩) ?_ ?_
                      rotate_left
                      · intro w'
                        go_simp
                        with_reducible rfl
                      rotate_left
                      · simp only [Act.put, List.setIfInBounds_toArray, List.set_cons_zero, List.set_cons_succ, iR, iT]
                        rfl
                      refine jA (i := 21) (N := some 87) (v := ?_) (a' := ?_) #[true, true, true, true, true, true, true, true, true, true, true, true, true, true, true, true, true, false, true, true, true, true, false, false, false, false, false, false, false, false, false, false] rfl rfl (iQ HT_.out (by kernel_rfl)) (fun _ _ _ h => h) (Or.inl ⟨by rfl, ?_⟩) ?_ ?_
                      rotate_left
                      · intro w'
                        go_simp
                        with_reducible rfl
                      rotate_left
                      · simp only [Act.put, List.setIfInBounds_toArray, List.set_cons_zero, List.set_cons_succ, iR, iT]
                        rfl
                      refine jA (i := 24) (N := some 90) (v := ?_) (a' := ?_) #[true, true, true, true, true, true, true, true, true, true, true, true, true, true, true, true, true, false, true, true, true, true, false, false, true, false, false, false, false, false, false, false] rfl rfl (iQ HT_.out (by kernel_rfl)) (fun _ _ _ h => h) (Or.inl ⟨by rfl, ?_⟩) ?_ ?_
                      rotate_left
                      · intro w'
                        go_simp
                        with_reducible rfl
                      rotate_left
                      · simp only [Act.put, List.setIfInBounds_toArray, List.set_cons_zero, List.set_cons_succ, iR, iT]
                        rfl
                      refine jA (i := 25) (N := some 91) (v := ?_) (a' := ?_) #[true, true, true, true, true, true, true, true, true, true, true, true, true, true, true, true, true, false, true, true, true, true, false, false, true, true, false, false, false, false, false, false] rfl rfl (iQ HT_.out (by kernel_rfl)) (fun _ _ _ h => h) (Or.inl ⟨by rfl, ?_⟩) ?_ ?_
                      rotate_left
                      · intro w'
                        go_simp
                        with_reducible rfl
                      rotate_left
                      · simp only [Act.put, List.setIfInBounds_toArray, List.set_cons_zero, List.set_cons_succ, iR, iT]
                        rfl
                      refine jA (i := 26) (N := some 92) (v := ?_) (a' := ?_) #[true, true, true, true, true, true, true, true, true, true, true, true, true, true, true, true, true, false, true, true, true, true, false, false, true, true, true, false, false, false, false, false] rfl rfl (iQ HT_.out (by kernel_rfl)) (fun _ _ _ h => h) (Or.inl ⟨by rfl, ?_⟩) ?_ ?_
                      rotate_left
                      · intro w'
                        go_simp
                        with_reducible rfl
                      rotate_left
                      · simp only [Act.put, List.setIfInBounds_toArray, List.set_cons_zero, List.set_cons_succ, iR, iT]
                        rfl
                      refine jA (i := 27) (N := some 93) (v := ?_) (a' := ?_) #[true, true, true, true, true, true, true, true, true, true, true, true, true, true, true, true, true, false, true, true, true, true, false, false, true, true, true, true, false, false, false, false] rfl rfl (iQ HT_.out (by kernel_rfl)) (fun _ _ _ h => h) (Or.inl ⟨by rfl, ?_⟩) ?_ ?_
                      rotate_left
                      · intro w'
                        go_simp
                        with_reducible rfl
                      rotate_left
                      · simp only [Act.put, List.setIfInBounds_toArray, List.set_cons_zero, List.set_cons_succ, iR, iT]
                        rfl
                      refine kF (i := 17) (N := some 83) (v := ?_) (a' := ?_) #[true, true, true, true, true, true, true, true, true, true, true, true, true, true, true, true, true, true, true, true, true, true, false, false, true, true, true, true, false, false, false, false] rfl rfl (jK HT_.out HW_.out (by kernel_rfl)) (fun _ _ _ h => h) (Or.inl ⟨by rfl, ?_⟩) hHeld ?_ ?_
                      rotate_left
                      · rintro w' ⟨s0, s1, s2, s3⟩
                        go_simp
                        with_reducible rfl
                      rotate_left
                      · simp only [Act.put, List.setIfInBounds_toArray, List.set_cons_zero, List.set_cons_succ, iR, iT]
                        rfl
                      refine kF (i := 23) (N := some 89) (v := ?_) (a' := ?_) #[true, true, true, true, true, true, true, true, true, true, true, true, true, true, true, true, true, true, true, true, true, true, false, true, true, true, true, true, false, false, false, false] rfl rfl (jK HT_.out HW_.out (by kernel_rfl)) (fun _ _ _ h => h) (Or.inl ⟨by rfl, ?_⟩) hHeld ?_ ?_
                      rotate_left
                      · rintro w' ⟨s0, s1, s2, s3⟩
                        go_simp
                        with_reducible rfl
                      rotate_left
                      · simp only [Act.put, List.setIfInBounds_toArray, List.set_cons_zero, List.set_cons_succ, iR, iT]
                        rfl
                      refine one_ (i := 22) (N := some 88) #[true, true, true, true, true, true, true, true, true, true, true, true, true, true, true, true, true, true, true, true, true, true, true, true, true, true, true, true, false, false, false, false] rfl rfl (jS HT_.out (by kernel_rfl)) (by decide) (fun K hK => ?_)
                      refine kK Try.func26 (by kernel_rfl) rfl #[.agg #[.int .u32 a0_0, .slice A0_1 l0_1.length c0_1], .int .i64 (Int.tmod a4 50), .int .i64 (Int.tmod a5 50)] (by rfl) rfl rfl (by (try simp only [List.map_toArray, List.map_cons, List.map_nil]); first | done | rfl | (simp only [List.length_drop, List.length_take]; rfl)) ?_
                      with_reducible refine (spans_Nodes.calls a0_0 _ _ l0_1 (Int.tmod a4 50) (Int.tmod a5 50) t436 _ ?side1 ?side2 A62.out).mono ?_
                      (case side1 => repeat (first | exact (Kd.C_below HR0_1.out (by repeat (first | (with_reducible first | exact HB.out | apply iG | apply iD | apply iF | refine iE ?_ GE407.out | refine iE ?_ GE414.out) | exact HB.out))) | (with_reducible refine Kd.C_alloc ?_ _) | (with_reducible refine Kd.C_drewN ?_ _) | (with_reducible refine Kd.C_drew ?_)))
                      (case side2 => exact HC0_1.out)
                      rintro e w70 ⟨v437, rfl, ho0, hb⟩
                      refine ⟨_, rfl, ?_⟩
                      have n0_ := iC.mk (Kd.R_below (by (with_reducible repeat (first | apply Kd.R_alloc | apply Kd.R_drewN | apply Kd.R_drew)); exact HO_415001.out) hb)
                      have n1_ := iC.mk (Kd.R_elder' (by (with_reducible repeat (first | apply Kd.R_alloc | apply Kd.R_drewN | apply Kd.R_drew)); exact HO431.out) (Kd.R_base ho0) hb)
                      have n2_ := iC.mk (Kd.R_elder' (by (with_reducible repeat (first | apply Kd.R_alloc | apply Kd.R_drewN | apply Kd.R_drew)); exact HO434.out) (Kd.R_base ho0) hb)
                      have n3_ := iC.mk (Kd.R_lower (Kd.R_new' (Kd.R_new' ho0 (Kd.R_lt (by (with_reducible repeat (first | apply Kd.R_alloc | apply Kd.R_drewN | apply Kd.R_drew)); exact HO431.out))) (Kd.R_lt (by (with_reducible repeat (first | apply Kd.R_alloc | apply Kd.R_drewN | apply Kd.R_drew)); exact HO434.out))) (iJ (by repeat (first | (with_reducible first | exact HB.out | apply iG | apply iD | apply iF | refine iE ?_ GE407.out | refine iE ?_ GE414.out) | exact HB.out))))
                      have n4_ := iC.mk (iP (g := gb407) (o := .cells #[.int .u32 a0_0, .slice A0_1 l0_1.length c0_1] 42 (0, 0)) (bk_ BK407.out) hb)
                      have n5_ := iC.mk (iP (g := gb414) (o := .cells #[.int .u32 t410, .slice Ao25 t411.length co25] 42 (0, 0)) (bk_ BK414.out) hb)
                      have n6_ := iC.mk (iM (by repeat (first | (with_reducible first | exact HB.out | apply iG | apply iD | apply iF | refine iE ?_ GE407.out | refine iE ?_ GE414.out) | exact HB.out)) hb)
                      clear HO_415001
                      clear HO431
                      clear HO434
                      clear BK407
                      clear BK414
                      clear HB
                      have HO_415001 := n0_
                      have HO431 := n1_
                      have HO434 := n2_
                      have HO438 := n3_
                      have BK407 := n4_
                      have BK414 := n5_
                      have HB := n6_
                      clear n0_ n1_ n2_ n3_ n4_ n5_ n6_
                      (try clear hb)
                      (try clear hb2)
                      (try clear hk)
                      (try clear hi)
                      (try clear ho0)
                      refine hK.out _ _ ⟨(iH BK414.out 0).trans rfl, (iH BK414.out 1).trans rfl, (iH BK407.out 0).trans rfl, (iH BK407.out 1).trans rfl⟩ (fun hHeld => ?_)
                      clear hK K
                      refine jT (a' := ?_) ?_ ?_
                      rotate_left
                      · show Act.put _ (some 88) _ = _
                        simp only [Act.put, List.setIfInBounds_toArray, List.set_cons_zero, List.set_cons_succ, iR, iT]
                        rfl
                      refine one_ (i := 28) (N := some 94) #[true, true, true, true, true, true, true, true, true, true, true, true, true, true, true, true, true, true, true, true, true, true, true, true, true, true, true, true, true, false, false, false] rfl rfl (jS HT_.out (by kernel_rfl)) (by decide) (fun K hK => ?_)
                      refine kK Try.func27 (by kernel_rfl) rfl #[.agg #[.int .u32 a0_0, .slice A0_1 l0_1.length c0_1], .int .i64 (Int.tmod a4 50), .int .i64 (Int.tmod a5 50)] (by rfl) rfl rfl (by (try simp only [List.map_toArray, List.map_cons, List.map_nil]); first | done | rfl | (simp only [List.length_drop, List.length_take]; rfl)) ?_
                      with_reducible refine (stratumref12_Nodes.calls kj51 a0_0 _ _ l0_1 (Int.tmod a4 50) (Int.tmod a5 50) t439 _ ?side1 ?side2 A63.out).mono ?_
                      (case side1 => repeat (first | exact (Kd.C_below HR0_1.out HB.out) | (with_reducible refine Kd.C_alloc ?_ _) | (with_reducible refine Kd.C_drewN ?_ _) | (with_reducible refine Kd.C_drew ?_)))
                      (case side2 => exact HC0_1.out)
                      rintro e w71 ⟨v440, rfl, ho0, hb⟩
                      refine ⟨_, rfl, ?_⟩
                      have n0_ := iC.mk (Kd.R_below (by (with_reducible repeat (first | apply Kd.R_alloc | apply Kd.R_drewN | apply Kd.R_drew)); exact HO_415001.out) hb)
                      have n1_ := iC.mk (Kd.R_elder' (by (with_reducible repeat (first | apply Kd.R_alloc | apply Kd.R_drewN | apply Kd.R_drew)); exact HO431.out) (Kd.R_base ho0) hb)
                      have n2_ := iC.mk (Kd.R_elder' (by (with_reducible repeat (first | apply Kd.R_alloc | apply Kd.R_drewN | apply Kd.R_drew)); exact HO434.out) (Kd.R_base ho0) hb)
                      have n3_ := iC.mk (Kd.R_elder' (by (with_reducible repeat (first | apply Kd.R_alloc | apply Kd.R_drewN | apply Kd.R_drew)); exact HO438.out) (Kd.R_base ho0) hb)
                      have n4_ := iC.mk (Kd.R_lower (Kd.R_new' (Kd.R_new' (Kd.R_new' ho0 (Kd.R_lt (by (with_reducible repeat (first | apply Kd.R_alloc | apply Kd.R_drewN | apply Kd.R_drew)); exact HO431.out))) (Kd.R_lt (by (with_reducible repeat (first | apply Kd.R_alloc | apply Kd.R_drewN | apply Kd.R_drew)); exact HO434.out))) (Kd.R_lt (by (with_reducible repeat (first | apply Kd.R_alloc | apply Kd.R_drewN | apply Kd.R_drew)); exact HO438.out))) (iJ (by repeat (first | (with_reducible first | exact HB.out | apply iG | apply iD | apply iF | refine iE ?_ GE407.out | refine iE ?_ GE414.out) | exact HB.out))))
                      have n5_ := iC.mk (iP (g := gb407) (o := .cells #[.int .u32 a0_0, .slice A0_1 l0_1.length c0_1] 42 (0, 0)) (bk_ BK407.out) hb)
                      have n6_ := iC.mk (iP (g := gb414) (o := .cells #[.int .u32 t410, .slice Ao25 t411.length co25] 42 (0, 0)) (bk_ BK414.out) hb)
                      have n7_ := iC.mk (iM (by repeat (first | (with_reducible first | exact HB.out | apply iG | apply iD | apply iF | refine iE ?_ GE407.out | refine iE ?_ GE414.out) | exact HB.out)) hb)
                      clear HO_415001
                      clear HO431
                      clear HO434
                      clear HO438
                      clear BK407
                      clear BK414
                      clear HB
                      have HO_415001 := n0_
                      have HO431 := n1_
                      have HO434 := n2_
                      have HO438 := n3_
                      have HO441 := n4_
                      have BK407 := n5_
                      have BK414 := n6_
                      have HB := n7_
                      clear n0_ n1_ n2_ n3_ n4_ n5_ n6_ n7_
                      (try clear hb)
                      (try clear hb2)
                      (try clear hk)
                      (try clear hi)
                      (try clear ho0)
                      obtain ⟨Ao72, co72, eo72⟩ := Kd.R_slice HO438.out
                      (first | subst eo72 | (injection eo72 with f1_ f2_ f3_; have f4_ := f1_.symm; have f5_ := f3_.symm; clear f1_ f2_ f3_; subst f4_; subst f5_))
                      obtain ⟨Ao73, co73, eo73⟩ := Kd.R_slice HO441.out
                      (first | subst eo73 | (injection eo73 with f1_ f2_ f3_; have f4_ := f1_.symm; have f5_ := f3_.symm; clear f1_ f2_ f3_; subst f4_; subst f5_))
                      refine hK.out _ _ ⟨(iH BK414.out 0).trans rfl, (iH BK414.out 1).trans rfl, (iH BK407.out 0).trans rfl, (iH BK407.out 1).trans rfl⟩ (fun hHeld => ?_)
                      clear hK K
                      refine jT (a' := ?_) ?_ ?_
                      rotate_left
                      · show Act.put _ (some 94) _ = _
                        simp only [Act.put, List.setIfInBounds_toArray, List.set_cons_zero, List.set_cons_succ, iR, iT]
                        rfl
                      refine one_ (i := 29) (N := some 95) #[true, true, true, true, true, true, true, true, true, true, true, true, true, true, true, true, true, true, true, true, true, true, true, true, true, true, true, true, true, true, false, false] rfl rfl (jS HT_.out (by kernel_rfl)) (by decide) (fun K hK => ?_)
                      refine kK Try.func25 (by kernel_rfl) rfl #[.slice Ao72 t436.length co72, .slice Ao73 t439.length co73] (by rfl) rfl rfl (by (try simp only [List.map_toArray, List.map_cons, List.map_nil]); first | done | rfl | (simp only [List.length_drop, List.length_take]; rfl)) ?_
                      with_reducible refine (stratumref07_SameInts.calls kj51 _ _ t436 _ _ t439 t442 _ ?side1 ?side2 ?side3 ?side4 A64.out).mono ?_
                      (case side1 => repeat (first | exact (Kd.R_reads' HO438.out).2.2 | (with_reducible refine Kd.C_alloc ?_ _) | (with_reducible refine Kd.C_drewN ?_ _) | (with_reducible refine Kd.C_drew ?_)))
                      (case side2 => exact (Kd.R_reads' HO438.out).2.1)
                      (case side3 => repeat (first | exact (Kd.R_reads' HO441.out).2.2 | (with_reducible refine Kd.C_alloc ?_ _) | (with_reducible refine Kd.C_drewN ?_ _) | (with_reducible refine Kd.C_drew ?_)))
                      (case side4 => exact (Kd.R_reads' HO441.out).2.1)
                      rintro e w' ⟨rfl, ⟨nd, rfl⟩⟩
                      refine ⟨_, rfl, ?_⟩
                      refine hK.out _ _ ⟨(iH BK414.out 0).trans rfl, (iH BK414.out 1).trans rfl, (iH BK407.out 0).trans rfl, (iH BK407.out 1).trans rfl⟩ (fun hHeld => ?_)
                      clear hK K
                      refine jT (a' := ?_) ?_ ?_
                      rotate_left
                      · show Act.put _ (some 95) _ = _
                        simp only [Act.put, List.setIfInBounds_toArray, List.set_cons_zero, List.set_cons_succ, iR, iT]
                        rfl
                      refine jA (i := 30) (N := some 96) (v := ?_) (a' := ?_) #[true, true, true, true, true, true, true, true, true, true, true, true, true, true, true, true, true, true, true, true, true, true, true, true, true, true, true, true, true, true, true, false] rfl rfl (iQ HT_.out (by kernel_rfl)) (fun _ _ _ h => h) (Or.inl ⟨by rfl, ?_⟩) ?_ ?_
                      rotate_left
                      · intro w'
                        go_simp
                        with_reducible rfl
                      rotate_left
                      · simp only [Act.put, List.setIfInBounds_toArray, List.set_cons_zero, List.set_cons_succ, iR, iT]
                        rfl
                      refine jA (i := 31) (N := some 12) (v := ?_) (a' := ?_) #[true, true, true, true, true, true, true, true, true, true, true, true, true, true, true, true, true, true, true, true, true, true, true, true, true, true, true, true, true, true, true, true] rfl rfl (iQ HT_.out (by kernel_rfl)) (fun _ _ _ h => h) (Or.inl ⟨by rfl, ?_⟩) ?_ ?_
                      rotate_left
                      · intro w'
                        go_simp
                        with_reducible rfl
                      rotate_left
                      · simp only [Act.put, List.setIfInBounds_toArray, List.set_cons_zero, List.set_cons_succ, iR, iT]
                        rfl
                      refine lT (kH HT_.out (by kernel_rfl)) ?_
                      try go_wp2
                      go_ret
                      exact ⟨by first | rfl | (simp [iU, iV] <;> rfl) | (simp [*, iU, iV] <;> rfl), by repeat (first | (with_reducible first | exact HB.out | apply iG | apply iD | apply iF | refine iE ?_ GE407.out | refine iE ?_ GE414.out) | exact HB.out)⟩
                    · replace c61 := Bool.eq_false_iff.mpr c61
                      subst c61
                      have H1 : (some false) = some r := by rw [if_neg (show ¬ (false = true) by decide)] at H; exact H
                      clear H
                      have H := H1
                      clear H1
                      obtain rfl := Option.some.inj H
                      try go_wp2
                      have n0_ := iC.mk (Kd.R_drew HO_415001.out)
                      have n1_ := iC.mk (iO BK407.out)
                      have n2_ := iC.mk (iO BK414.out)
                      have n3_ := iC.mk (iF HB.out)
                      clear HO_415001
                      clear BK407
                      clear BK414
                      clear HB
                      have HO_415001 := n0_
                      have BK407 := n1_
                      have BK414 := n2_
                      have HB := n3_
                      clear n0_ n1_ n2_ n3_
                      refine kP (n := 32) (S := fun w' => w'.cell? ⟨gb414, 0, none⟩ = some (.int .u32 t410) ∧ w'.cell? ⟨gb414, 1, none⟩ = some (.slice Ao25 t411.length co25)) (ds := []) #[false, false, false, false, false, false, false, false, false, false, false, false, false, false, false, false, false, false, false, false, false, false, false, false, false, false, false, false, false, false, false, false] (by kernel_rfl) rfl rfl ⟨(iH BK414.out 0).trans rfl, (iH BK414.out 1).trans rfl⟩ (fun hHeld => ?_); refine jV stratumlaw12_SpansParts.tab7 stratumlaw12_SpansParts.bits7 (fun HT_ HW_ => ?_)
                      generalize wc.drew = w74 at HO_415001 BK407 BK414 HB hHeld ⊢
                      refine jA (i := 0) (N := some 66) (v := ?_) (a' := ?_) #[true, false, false, false, false, false, false, false, false, false, false, false, false, false, false, false, false, false, false, false, false, false, false, false, false, false, false, false, false, false, false, false] rfl rfl (iQ HT_.out (by kernel_rfl)) (fun _ _ _ h => h) (Or.inl ⟨by rfl, ?_⟩) ?_ ?_
                      rotate_left
                      · intro w'
                        go_simp
                        with_reducible rfl
                      rotate_left
                      · simp only [Act.put, List.setIfInBounds_toArray, List.set_cons_zero, List.set_cons_succ, iR, iT]
                        rfl
                      refine jA (i := 1) (N := some 67) (v := ?_) (a' := ?_) #[true, true, false, false, false, false, false, false, false, false, false, false, false, false, false, false, false, false, false, false, false, false, false, false, false, false, false, false, false, false, false, false] rfl rfl (iQ HT_.out (by kernel_rfl)) (fun _ _ _ h => h) (Or.inl ⟨by rfl, ?_⟩) ?_ ?_
                      rotate_left
                      · intro w'
                        go_simp
                        with_reducible rfl
                      rotate_left
                      · simp only [Act.put, List.setIfInBounds_toArray, List.set_cons_zero, List.set_cons_succ, iR, iT]
                        rfl
                      refine jA (i := 3) (N := some 69) (v := ?_) (a' := ?_) #[true, true, false, true, false, false, false, false, false, false, false, false, false, false, false, false, false, false, false, false, false, false, false, false, false, false, false, false, false, false, false, false] rfl rfl (iQ HT_.out (by kernel_rfl)) (fun _ _ _ h => h) (Or.inl ⟨by rfl, ?_⟩) ?_ ?_
                      rotate_left
                      · intro w'
                        go_simp
                        with_reducible rfl
                      rotate_left
                      · simp only [Act.put, List.setIfInBounds_toArray, List.set_cons_zero, List.set_cons_succ, iR, iT]
                        rfl
                      refine jA (i := 4) (N := some 70) (v := ?_) (a' := ?_) #[true, true, false, true, true, false, false, false, false, false, false, false, false, false, false, false, false, false, false, false, false, false, false, false, false, false, false, false, false, false, false, false] rfl rfl (iQ HT_.out (by kernel_rfl)) (fun _ _ _ h => h) (Or.inl ⟨by rfl, ?_⟩) ?_ ?_
                      rotate_left
                      · intro w'
                        go_simp
                        with_reducible rfl
                      rotate_left
                      · simp only [Act.put, List.setIfInBounds_toArray, List.set_cons_zero, List.set_cons_succ, iR, iT]
                        rfl
                      refine jA (i := 5) (N := some 71) (v := ?_) (a' := ?_) #[true, true, false, true, true, true, false, false, false, false, false, false, false, false, false, false, false, false, false, false, false, false, false, false, false, false, false, false, false, false, false, false] rfl rfl (iQ HT_.out (by kernel_rfl)) (fun _ _ _ h => h) (Or.inl ⟨by rfl, ?_⟩) ?_ ?_
                      rotate_left
                      · intro w'
                        go_simp
                        with_reducible rfl
                      rotate_left
                      · simp only [Act.put, List.setIfInBounds_toArray, List.set_cons_zero, List.set_cons_succ, iR, iT]
                        rfl
                      refine jA (i := 6) (N := some 72) (v := ?_) (a' := ?_) #[true, true, false, true, true, true, true, false, false, false, false, false, false, false, false, false, false, false, false, false, false, false, false, false, false, false, false, false, false, false, false, false] rfl rfl (iQ HT_.out (by kernel_rfl)) (fun _ _ _ h => h) (Or.inl ⟨by rfl, ?_⟩) ?_ ?_
                      rotate_left
                      · intro w'
                        go_simp
                        with_reducible rfl
                      rotate_left
                      · simp only [Act.put, List.setIfInBounds_toArray, List.set_cons_zero, List.set_cons_succ, iR, iT]
                        rfl
                      refine jA (i := 9) (N := some 75) (v := ?_) (a' := ?_) #[true, true, false, true, true, true, true, false, false, true, false, false, false, false, false, false, false, false, false, false, false, false, false, false, false, false, false, false, false, false, false, false] rfl rfl (iQ HT_.out (by kernel_rfl)) (fun _ _ _ h => h) (Or.inl ⟨by rfl, ?_⟩) ?_ ?_
                      rotate_left
                      · intro w'
                        go_simp
                        with_reducible rfl
                      rotate_left
                      · simp only [Act.put, List.setIfInBounds_toArray, List.set_cons_zero, List.set_cons_succ, iR, iT]
                        rfl
                      refine jA (i := 10) (N := some 76) (v := ?_) (a' := ?_) #[true, true, false, true, true, true, true, false, false, true, true, false, false, false, false, false, false, false, false, false, false, false, false, false, false, false, false, false, false, false, false, false] rfl rfl (iQ HT_.out (by kernel_rfl)) (fun _ _ _ h => h) (Or.inl ⟨by rfl, ?_⟩) ?_ ?_
                      rotate_left
                      · intro w'
                        go_simp
                        with_reducible rfl
                      rotate_left
                      · simp only [Act.put, List.setIfInBounds_toArray, List.set_cons_zero, List.set_cons_succ, iR, iT]
                        rfl
                      refine jA (i := 11) (N := some 77) (v := ?_) (a' := ?_) #[true, true, false, true, true, true, true, false, false, true, true, true, false, false, false, false, false, false, false, false, false, false, false, false, false, false, false, false, false, false, false, false] rfl rfl (iQ HT_.out (by kernel_rfl)) (fun _ _ _ h => h) (Or.inl ⟨by rfl, ?_⟩) ?_ ?_
                      rotate_left
                      · intro w'
                        go_simp
                        with_reducible rfl
                      rotate_left
                      · simp only [Act.put, List.setIfInBounds_toArray, List.set_cons_zero, List.set_cons_succ, iR, iT]
                        rfl
                      refine jA (i := 12) (N := some 78) (v := ?_) (a' := ?_) #[true, true, false, true, true, true, true, false, false, true, true, true, true, false, false, false, false, false, false, false, false, false, false, false, false, false, false, false, false, false, false, false] rfl rfl (iQ HT_.out (by kernel_rfl)) (fun _ _ _ h => h) (Or.inl ⟨by rfl, ?_⟩) ?_ ?_
                      rotate_left
                      · intro w'
                        go_simp
                        with_reducible rfl
                      rotate_left
                      · simp only [Act.put, List.setIfInBounds_toArray, List.set_cons_zero, List.set_cons_succ, iR, iT]
                        rfl
                      refine kF (i := 2) (N := some 68) (v := ?_) (a' := ?_) #[true, true, true, true, true, true, true, false, false, true, true, true, true, false, false, false, false, false, false, false, false, false, false, false, false, false, false, false, false, false, false, false] rfl rfl (jK HT_.out HW_.out (by kernel_rfl)) (fun _ _ _ h => h) (Or.inl ⟨by rfl, ?_⟩) hHeld ?_ ?_
                      rotate_left
                      · rintro w' ⟨s0, s1⟩
                        go_simp
                        with_reducible rfl
                      rotate_left
                      · simp only [Act.put, List.setIfInBounds_toArray, List.set_cons_zero, List.set_cons_succ, iR, iT]
                        rfl
                      refine kF (i := 8) (N := some 74) (v := ?_) (a' := ?_) #[true, true, true, true, true, true, true, false, true, true, true, true, true, false, false, false, false, false, false, false, false, false, false, false, false, false, false, false, false, false, false, false] rfl rfl (jK HT_.out HW_.out (by kernel_rfl)) (fun _ _ _ h => h) (Or.inl ⟨by rfl, ?_⟩) hHeld ?_ ?_
                      rotate_left
                      · rintro w' ⟨s0, s1⟩
                        go_simp
                        with_reducible rfl
                      rotate_left
                      · simp only [Act.put, List.setIfInBounds_toArray, List.set_cons_zero, List.set_cons_succ, iR, iT]
                        rfl
                      refine one_ (i := 7) (N := some 73) #[true, true, true, true, true, true, true, true, true, true, true, true, true, false, false, false, false, false, false, false, false, false, false, false, false, false, false, false, false, false, false, false] rfl rfl (jS HT_.out (by kernel_rfl)) (by decide) (fun K hK => ?_)
                      refine kK Try.func26 (by kernel_rfl) rfl #[.agg #[.int .u32 t410, .slice Ao25 t411.length co25], .int .i64 (Int.tmod a4 200), .int .i64 (Int.tmod a5 200)] (by rfl) rfl rfl (by (try simp only [List.map_toArray, List.map_cons, List.map_nil]); first | done | rfl | (simp only [List.length_drop, List.length_take]; rfl)) ?_
                      with_reducible refine (spans_Nodes.calls t410 _ _ t411 (Int.tmod a4 200) (Int.tmod a5 200) t429 _ ?side1 ?side2 A58.out).mono ?_
                      (case side1 => repeat (first | exact (Kd.R_reads' HO_415001.out).2.2 | (with_reducible refine Kd.C_alloc ?_ _) | (with_reducible refine Kd.C_drewN ?_ _) | (with_reducible refine Kd.C_drew ?_)))
                      (case side2 => exact (Kd.R_reads' HO_415001.out).2.1)
                      rintro e w75 ⟨v430, rfl, ho0, hb⟩
                      refine ⟨_, rfl, ?_⟩
                      have n0_ := iC.mk (Kd.R_below (by (with_reducible repeat (first | apply Kd.R_alloc | apply Kd.R_drewN | apply Kd.R_drew)); exact HO_415001.out) hb)
                      have n1_ := iC.mk (Kd.R_lower ho0 (iJ (by repeat (first | (with_reducible first | exact HB.out | apply iG | apply iD | apply iF | refine iE ?_ GE407.out | refine iE ?_ GE414.out) | exact HB.out))))
                      have n2_ := iC.mk (iP (g := gb407) (o := .cells #[.int .u32 a0_0, .slice A0_1 l0_1.length c0_1] 42 (0, 0)) (bk_ BK407.out) hb)
                      have n3_ := iC.mk (iP (g := gb414) (o := .cells #[.int .u32 t410, .slice Ao25 t411.length co25] 42 (0, 0)) (bk_ BK414.out) hb)
                      have n4_ := iC.mk (iM (by repeat (first | (with_reducible first | exact HB.out | apply iG | apply iD | apply iF | refine iE ?_ GE407.out | refine iE ?_ GE414.out) | exact HB.out)) hb)
                      clear HO_415001
                      clear BK407
                      clear BK414
                      clear HB
                      have HO_415001 := n0_
                      have HO431 := n1_
                      have BK407 := n2_
                      have BK414 := n3_
                      have HB := n4_
                      clear n0_ n1_ n2_ n3_ n4_
                      (try clear hb)
                      (try clear hb2)
                      (try clear hk)
                      (try clear hi)
                      (try clear ho0)
                      refine hK.out _ _ ⟨(iH BK414.out 0).trans rfl, (iH BK414.out 1).trans rfl⟩ (fun hHeld => ?_)
                      clear hK K
                      refine jT (a' := ?_) ?_ ?_
                      rotate_left
                      · show Act.put _ (some 73) _ = _
                        simp only [Act.put, List.setIfInBounds_toArray, List.set_cons_zero, List.set_cons_succ, iR, iT]
                        rfl
                      refine one_ (i := 13) (N := some 79) #[true, true, true, true, true, true, true, true, true, true, true, true, true, true, false, false, false, false, false, false, false, false, false, false, false, false, false, false, false, false, false, false] rfl rfl (jS HT_.out (by kernel_rfl)) (by decide) (fun K hK => ?_)
                      refine kK Try.func27 (by kernel_rfl) rfl #[.agg #[.int .u32 t410, .slice Ao25 t411.length co25], .int .i64 (Int.tmod a4 200), .int .i64 (Int.tmod a5 200)] (by rfl) rfl rfl (by (try simp only [List.map_toArray, List.map_cons, List.map_nil]); first | done | rfl | (simp only [List.length_drop, List.length_take]; rfl)) ?_
                      with_reducible refine (stratumref12_Nodes.calls kj51 t410 _ _ t411 (Int.tmod a4 200) (Int.tmod a5 200) t432 _ ?side1 ?side2 A59.out).mono ?_
                      (case side1 => repeat (first | exact (Kd.R_reads' HO_415001.out).2.2 | (with_reducible refine Kd.C_alloc ?_ _) | (with_reducible refine Kd.C_drewN ?_ _) | (with_reducible refine Kd.C_drew ?_)))
                      (case side2 => exact (Kd.R_reads' HO_415001.out).2.1)
                      rintro e w76 ⟨v433, rfl, ho0, hb⟩
                      refine ⟨_, rfl, ?_⟩
                      have n0_ := iC.mk (Kd.R_below (by (with_reducible repeat (first | apply Kd.R_alloc | apply Kd.R_drewN | apply Kd.R_drew)); exact HO_415001.out) hb)
                      have n1_ := iC.mk (Kd.R_elder' (by (with_reducible repeat (first | apply Kd.R_alloc | apply Kd.R_drewN | apply Kd.R_drew)); exact HO431.out) (Kd.R_base ho0) hb)
                      have n2_ := iC.mk (Kd.R_lower (Kd.R_new' ho0 (Kd.R_lt (by (with_reducible repeat (first | apply Kd.R_alloc | apply Kd.R_drewN | apply Kd.R_drew)); exact HO431.out))) (iJ (by repeat (first | (with_reducible first | exact HB.out | apply iG | apply iD | apply iF | refine iE ?_ GE407.out | refine iE ?_ GE414.out) | exact HB.out))))
                      have n3_ := iC.mk (iP (g := gb407) (o := .cells #[.int .u32 a0_0, .slice A0_1 l0_1.length c0_1] 42 (0, 0)) (bk_ BK407.out) hb)
                      have n4_ := iC.mk (iP (g := gb414) (o := .cells #[.int .u32 t410, .slice Ao25 t411.length co25] 42 (0, 0)) (bk_ BK414.out) hb)
                      have n5_ := iC.mk (iM (by repeat (first | (with_reducible first | exact HB.out | apply iG | apply iD | apply iF | refine iE ?_ GE407.out | refine iE ?_ GE414.out) | exact HB.out)) hb)
                      clear HO_415001
                      clear HO431
                      clear BK407
                      clear BK414
                      clear HB
                      have HO_415001 := n0_
                      have HO431 := n1_
                      have HO434 := n2_
                      have BK407 := n3_
                      have BK414 := n4_
                      have HB := n5_
                      clear n0_ n1_ n2_ n3_ n4_ n5_
                      (try clear hb)
                      (try clear hb2)
                      (try clear hk)
                      (try clear hi)
                      (try clear ho0)
                      obtain ⟨Ao77, co77, eo77⟩ := Kd.R_slice HO431.out
                      (first | subst eo77 | (injection eo77 with f1_ f2_ f3_; have f4_ := f1_.symm; have f5_ := f3_.symm; clear f1_ f2_ f3_; subst f4_; subst f5_))
                      obtain ⟨Ao78, co78, eo78⟩ := Kd.R_slice HO434.out
                      (first | subst eo78 | (injection eo78 with f1_ f2_ f3_; have f4_ := f1_.symm; have f5_ := f3_.symm; clear f1_ f2_ f3_; subst f4_; subst f5_))
                      refine hK.out _ _ ⟨(iH BK414.out 0).trans rfl, (iH BK414.out 1).trans rfl⟩ (fun hHeld => ?_)
                      clear hK K
                      refine jT (a' := ?_) ?_ ?_
                      rotate_left
                      · show Act.put _ (some 79) _ = _
                        simp only [Act.put, List.setIfInBounds_toArray, List.set_cons_zero, List.set_cons_succ, iR, iT]
                        rfl
                      refine one_ (i := 14) (N := some 80) #[true, true, true, true, true, true, true, true, true, true, true, true, true, true, true, false, false, false, false, false, false, false, false, false, false, false, false, false, false, false, false, false] rfl rfl (jS HT_.out (by kernel_rfl)) (by decide) (fun K hK => ?_)
                      refine kK Try.func25 (by kernel_rfl) rfl #[.slice Ao77 t429.length co77, .slice Ao78 t432.length co78] (by rfl) rfl rfl (by (try simp only [List.map_toArray, List.map_cons, List.map_nil]); first | done | rfl | (simp only [List.length_drop, List.length_take]; rfl)) ?_
                      with_reducible refine (stratumref07_SameInts.calls kj51 _ _ t429 _ _ t432 false _ ?side1 ?side2 ?side3 ?side4 A60.out).mono ?_
                      (case side1 => repeat (first | exact (Kd.R_reads' HO431.out).2.2 | (with_reducible refine Kd.C_alloc ?_ _) | (with_reducible refine Kd.C_drewN ?_ _) | (with_reducible refine Kd.C_drew ?_)))
                      (case side2 => exact (Kd.R_reads' HO431.out).2.1)
                      (case side3 => repeat (first | exact (Kd.R_reads' HO434.out).2.2 | (with_reducible refine Kd.C_alloc ?_ _) | (with_reducible refine Kd.C_drewN ?_ _) | (with_reducible refine Kd.C_drew ?_)))
                      (case side4 => exact (Kd.R_reads' HO434.out).2.1)
                      rintro e w' ⟨rfl, ⟨nd, rfl⟩⟩
                      refine ⟨_, rfl, ?_⟩
                      refine hK.out _ _ ⟨(iH BK414.out 0).trans rfl, (iH BK414.out 1).trans rfl⟩ (fun hHeld => ?_)
                      clear hK K
                      refine jT (a' := ?_) ?_ ?_
                      rotate_left
                      · show Act.put _ (some 80) _ = _
                        simp only [Act.put, List.setIfInBounds_toArray, List.set_cons_zero, List.set_cons_succ, iR, iT]
                        rfl
                      refine jA (i := 15) (N := some 81) (v := ?_) (a' := ?_) #[true, true, true, true, true, true, true, true, true, true, true, true, true, true, true, true, false, false, false, false, false, false, false, false, false, false, false, false, false, false, false, false] rfl rfl (iQ HT_.out (by kernel_rfl)) (fun _ _ _ h => h) (Or.inl ⟨by rfl, ?_⟩) ?_ ?_
                      rotate_left
                      · intro w'
                        go_simp
                        with_reducible rfl
                      rotate_left
                      · simp only [Act.put, List.setIfInBounds_toArray, List.set_cons_zero, List.set_cons_succ, iR, iT]
                        rfl
                      refine jA (i := 16) (N := some 82) (v := ?_) (a' := ?_) #[true, true, true, true, true, true, true, true, true, true, true, true, true, true, true, true, true, false, false, false, false, false, false, false, false, false, false, false, false, false, false, false] rfl rfl (iQ HT_.out (by kernel_rfl)) (fun _ _ _ h => h) (Or.inl ⟨by rfl, ?_⟩) ?_ ?_
                      rotate_left
                      · intro w'
                        go_simp
                        with_reducible rfl
                      rotate_left
                      · simp only [Act.put, List.setIfInBounds_toArray, List.set_cons_zero, List.set_cons_succ, iR, iT]
                        rfl
                      refine jA (i := 17) (N := some 83) (v := undef) (a' := ?_) #[true, true, true, true, true, true, true, true, true, true, true, true, true, true, true, true, true, true, false, false, false, false, false, false, false, false, false, false, false, false, false, false] rfl rfl (iQ HT_.out (by kernel_rfl)) (fun _ _ _ h => h) (Or.inr ⟨by rfl, rfl⟩) ?_ ?_
                      rotate_left
                      · simp only [Act.put, List.setIfInBounds_toArray, List.set_cons_zero, List.set_cons_succ, iR, iT]
                        rfl
                      refine jA (i := 18) (N := some 84) (v := undef) (a' := ?_) #[true, true, true, true, true, true, true, true, true, true, true, true, true, true, true, true, true, true, true, false, false, false, false, false, false, false, false, false, false, false, false, false] rfl rfl (iQ HT_.out (by kernel_rfl)) (fun _ _ _ h => h) (Or.inr ⟨by rfl, rfl⟩) ?_ ?_
                      rotate_left
                      · simp only [Act.put, List.setIfInBounds_toArray, List.set_cons_zero, List.set_cons_succ, iR, iT]
                        rfl
                      refine jA (i := 19) (N := some 85) (v := undef) (a' := ?_) #[true, true, true, true, true, true, true, true, true, true, true, true, true, true, true, true, true, true, true, true, false, false, false, false, false, false, false, false, false, false, false, false] rfl rfl (iQ HT_.out (by kernel_rfl)) (fun _ _ _ h => h) (Or.inr ⟨by rfl, rfl⟩) ?_ ?_
                      rotate_left
                      · simp only [Act.put, List.setIfInBounds_toArray, List.set_cons_zero, List.set_cons_succ, iR, iT]
                        rfl
                      refine jA (i := 20) (N := some 86) (v := undef) (a' := ?_) #[true, true, true, true, true, true, true, true, true, true, true, true, true, true, true, true, true, true, true, true, true, false, false, false, false, false, false, false, false, false, false, false] rfl rfl (iQ HT_.out (by kernel_rfl)) (fun _ _ _ h => h) (Or.inr ⟨by rfl, rfl⟩) ?_ ?_
                      rotate_left
                      · simp only [Act.put, List.setIfInBounds_toArray, List.set_cons_zero, List.set_cons_succ, iR, iT]
                        rfl
                      refine jA (i := 21) (N := some 87) (v := undef) (a' := ?_) #[true, true, true, true, true, true, true, true, true, true, true, true, true, true, true, true, true, true, true, true, true, true, false, false, false, false, false, false, false, false, false, false] rfl rfl (iQ HT_.out (by kernel_rfl)) (fun _ _ _ h => h) (Or.inr ⟨by rfl, rfl⟩) ?_ ?_
                      rotate_left
                      · simp only [Act.put, List.setIfInBounds_toArray, List.set_cons_zero, List.set_cons_succ, iR, iT]
                        rfl
                      refine jA (i := 22) (N := some 88) (v := undef) (a' := ?_) #[true, true, true, true, true, true, true, true, true, true, true, true, true, true, true, true, true, true, true, true, true, true, true, false, false, false, false, false, false, false, false, false] rfl rfl (iQ HT_.out (by kernel_rfl)) (fun _ _ _ h => h) (Or.inr ⟨by rfl, rfl⟩) ?_ ?_
                      rotate_left
                      · simp only [Act.put, List.setIfInBounds_toArray, List.set_cons_zero, List.set_cons_succ, iR, iT]
                        rfl
                      refine jA (i := 23) (N := some 89) (v := undef) (a' := ?_) #[true, true, true, true, true, true, true, true, true, true, true, true, true, true, true, true, true, true, true, true, true, true, true, true, false, false, false, false, false, false, false, false] rfl rfl (iQ HT_.out (by kernel_rfl)) (fun _ _ _ h => h) (Or.inr ⟨by rfl, rfl⟩) ?_ ?_
                      rotate_left
                      · simp only [Act.put, List.setIfInBounds_toArray, List.set_cons_zero, List.set_cons_succ, iR, iT]
                        rfl
                      refine jA (i := 24) (N := some 90) (v := undef) (a' := ?_) #[true, true, true, true, true, true, true, true, true, true, true, true, true, true, true, true, true, true, true, true, true, true, true, true, true, false, false, false, false, false, false, false] rfl rfl (iQ HT_.out (by kernel_rfl)) (fun _ _ _ h => h) (Or.inr ⟨by rfl, rfl⟩) ?_ ?_
                      rotate_left
                      · simp only [Act.put, List.setIfInBounds_toArray, List.set_cons_zero, List.set_cons_succ, iR, iT]
                        rfl
                      refine jA (i := 25) (N := some 91) (v := undef) (a' := ?_) #[true, true, true, true, true, true, true, true, true, true, true, true, true, true, true, true, true, true, true, true, true, true, true, true, true, true, false, false, false, false, false, false] rfl rfl (iQ HT_.out (by kernel_rfl)) (fun _ _ _ h => h) (Or.inr ⟨by rfl, rfl⟩) ?_ ?_
                      rotate_left
                      · simp only [Act.put, List.setIfInBounds_toArray, List.set_cons_zero, List.set_cons_succ, iR, iT]
                        rfl
                      refine jA (i := 26) (N := some 92) (v := undef) (a' := ?_) #[true, true, true, true, true, true, true, true, true, true, true, true, true, true, true, true, true, true, true, true, true, true, true, true, true, true, true, false, false, false, false, false] rfl rfl (iQ HT_.out (by kernel_rfl)) (fun _ _ _ h => h) (Or.inr ⟨by rfl, rfl⟩) ?_ ?_
                      rotate_left
                      · simp only [Act.put, List.setIfInBounds_toArray, List.set_cons_zero, List.set_cons_succ, iR, iT]
                        rfl
                      refine jA (i := 27) (N := some 93) (v := undef) (a' := ?_) #[true, true, true, true, true, true, true, true, true, true, true, true, true, true, true, true, true, true, true, true, true, true, true, true, true, true, true, true, false, false, false, false] rfl rfl (iQ HT_.out (by kernel_rfl)) (fun _ _ _ h => h) (Or.inr ⟨by rfl, rfl⟩) ?_ ?_
                      rotate_left
                      · simp only [Act.put, List.setIfInBounds_toArray, List.set_cons_zero, List.set_cons_succ, iR, iT]
                        rfl
                      refine jA (i := 28) (N := some 94) (v := undef) (a' := ?_) #[true, true, true, true, true, true, true, true, true, true, true, true, true, true, true, true, true, true, true, true, true, true, true, true, true, true, true, true, true, false, false, false] rfl rfl (iQ HT_.out (by kernel_rfl)) (fun _ _ _ h => h) (Or.inr ⟨by rfl, rfl⟩) ?_ ?_
                      rotate_left
                      · simp only [Act.put, List.setIfInBounds_toArray, List.set_cons_zero, List.set_cons_succ, iR, iT]
                        rfl
                      refine jA (i := 29) (N := some 95) (v := undef) (a' := ?_) #[true, true, true, true, true, true, true, true, true, true, true, true, true, true, true, true, true, true, true, true, true, true, true, true, true, true, true, true, true, true, false, false] rfl rfl (iQ HT_.out (by kernel_rfl)) (fun _ _ _ h => h) (Or.inr ⟨by rfl, rfl⟩) ?_ ?_
                      rotate_left
                      · simp only [Act.put, List.setIfInBounds_toArray, List.set_cons_zero, List.set_cons_succ, iR, iT]
                        rfl
                      refine jA (i := 30) (N := some 96) (v := ?_) (a' := ?_) #[true, true, true, true, true, true, true, true, true, true, true, true, true, true, true, true, true, true, true, true, true, true, true, true, true, true, true, true, true, true, true, false] rfl rfl (iQ HT_.out (by kernel_rfl)) (fun _ _ _ h => h) (Or.inl ⟨by rfl, ?_⟩) ?_ ?_
                      rotate_left
                      · intro w'
                        go_simp
                        with_reducible rfl
                      rotate_left
                      · simp only [Act.put, List.setIfInBounds_toArray, List.set_cons_zero, List.set_cons_succ, iR, iT]
                        rfl
                      refine jA (i := 31) (N := some 12) (v := ?_) (a' := ?_) #[true, true, true, true, true, true, true, true, true, true, true, true, true, true, true, true, true, true, true, true, true, true, true, true, true, true, true, true, true, true, true, true] rfl rfl (iQ HT_.out (by kernel_rfl)) (fun _ _ _ h => h) (Or.inl ⟨by rfl, ?_⟩) ?_ ?_
                      rotate_left
                      · intro w'
                        go_simp
                        with_reducible rfl
                      rotate_left
                      · simp only [Act.put, List.setIfInBounds_toArray, List.set_cons_zero, List.set_cons_succ, iR, iT]
                        rfl
                      refine lT (kH HT_.out (by kernel_rfl)) ?_
                      try go_wp2
                      go_ret
                      exact ⟨by first | rfl | (simp [iU, iV] <;> rfl) | (simp [*, iU, iV] <;> rfl), by repeat (first | (with_reducible first | exact HB.out | apply iG | apply iD | apply iF | refine iE ?_ GE407.out | refine iE ?_ GE414.out) | exact HB.out)⟩
                  · replace c57 := Bool.eq_false_iff.mpr c57
                    subst c57
                    have H1 : (some false) = some r := by rw [if_neg (show ¬ (false = true) by decide)] at H; exact H
                    clear H
                    have H := H1
                    clear H1
                    obtain rfl := Option.some.inj H
                    try go_wp2
                    have n0_ := iC.mk (Kd.R_drew HO_415001.out)
                    have n1_ := iC.mk (iO BK407.out)
                    have n2_ := iC.mk (iO BK414.out)
                    have n3_ := iC.mk (iF HB.out)
                    clear HO_415001
                    clear BK407
                    clear BK414
                    clear HB
                    have HO_415001 := n0_
                    have BK407 := n1_
                    have BK414 := n2_
                    have HB := n3_
                    clear n0_ n1_ n2_ n3_
                    refine kP (n := 32) (S := fun w' => True) (ds := []) #[false, false, false, false, false, false, false, false, false, false, false, false, false, false, false, false, false, false, false, false, false, false, false, false, false, false, false, false, false, false, false, false] (by kernel_rfl) rfl rfl trivial (fun hHeld => ?_); refine jV stratumlaw12_SpansParts.tab7 stratumlaw12_SpansParts.bits7 (fun HT_ HW_ => ?_)
                    generalize wc.drew = w79 at HO_415001 BK407 BK414 HB hHeld ⊢
                    refine jA (i := 0) (N := some 66) (v := ?_) (a' := ?_) #[true, false, false, false, false, false, false, false, false, false, false, false, false, false, false, false, false, false, false, false, false, false, false, false, false, false, false, false, false, false, false, false] rfl rfl (iQ HT_.out (by kernel_rfl)) (fun _ _ _ h => h) (Or.inl ⟨by rfl, ?_⟩) ?_ ?_
                    rotate_left
                    · intro w'
                      go_simp
                      with_reducible rfl
                    rotate_left
                    · simp only [Act.put, List.setIfInBounds_toArray, List.set_cons_zero, List.set_cons_succ, iR, iT]
                      rfl
                    refine jA (i := 1) (N := some 67) (v := ?_) (a' := ?_) #[true, true, false, false, false, false, false, false, false, false, false, false, false, false, false, false, false, false, false, false, false, false, false, false, false, false, false, false, false, false, false, false] rfl rfl (iQ HT_.out (by kernel_rfl)) (fun _ _ _ h => h) (Or.inl ⟨by rfl, ?_⟩) ?_ ?_
                    rotate_left
                    · intro w'
                      go_simp
                      with_reducible rfl
                    rotate_left
                    · simp only [Act.put, List.setIfInBounds_toArray, List.set_cons_zero, List.set_cons_succ, iR, iT]
                      rfl
                    refine jA (i := 2) (N := some 68) (v := undef) (a' := ?_) #[true, true, true, false, false, false, false, false, false, false, false, false, false, false, false, false, false, false, false, false, false, false, false, false, false, false, false, false, false, false, false, false] rfl rfl (iQ HT_.out (by kernel_rfl)) (fun _ _ _ h => h) (Or.inr ⟨by rfl, rfl⟩) ?_ ?_
                    rotate_left
                    · simp only [Act.put, List.setIfInBounds_toArray, List.set_cons_zero, List.set_cons_succ, iR, iT]
                      rfl
                    refine jA (i := 3) (N := some 69) (v := undef) (a' := ?_) #[true, true, true, true, false, false, false, false, false, false, false, false, false, false, false, false, false, false, false, false, false, false, false, false, false, false, false, false, false, false, false, false] rfl rfl (iQ HT_.out (by kernel_rfl)) (fun _ _ _ h => h) (Or.inr ⟨by rfl, rfl⟩) ?_ ?_
                    rotate_left
                    · simp only [Act.put, List.setIfInBounds_toArray, List.set_cons_zero, List.set_cons_succ, iR, iT]
                      rfl
                    refine jA (i := 4) (N := some 70) (v := undef) (a' := ?_) #[true, true, true, true, true, false, false, false, false, false, false, false, false, false, false, false, false, false, false, false, false, false, false, false, false, false, false, false, false, false, false, false] rfl rfl (iQ HT_.out (by kernel_rfl)) (fun _ _ _ h => h) (Or.inr ⟨by rfl, rfl⟩) ?_ ?_
                    rotate_left
                    · simp only [Act.put, List.setIfInBounds_toArray, List.set_cons_zero, List.set_cons_succ, iR, iT]
                      rfl
                    refine jA (i := 5) (N := some 71) (v := undef) (a' := ?_) #[true, true, true, true, true, true, false, false, false, false, false, false, false, false, false, false, false, false, false, false, false, false, false, false, false, false, false, false, false, false, false, false] rfl rfl (iQ HT_.out (by kernel_rfl)) (fun _ _ _ h => h) (Or.inr ⟨by rfl, rfl⟩) ?_ ?_
                    rotate_left
                    · simp only [Act.put, List.setIfInBounds_toArray, List.set_cons_zero, List.set_cons_succ, iR, iT]
                      rfl
                    refine jA (i := 6) (N := some 72) (v := undef) (a' := ?_) #[true, true, true, true, true, true, true, false, false, false, false, false, false, false, false, false, false, false, false, false, false, false, false, false, false, false, false, false, false, false, false, false] rfl rfl (iQ HT_.out (by kernel_rfl)) (fun _ _ _ h => h) (Or.inr ⟨by rfl, rfl⟩) ?_ ?_
                    rotate_left
                    · simp only [Act.put, List.setIfInBounds_toArray, List.set_cons_zero, List.set_cons_succ, iR, iT]
                      rfl
                    refine jA (i := 7) (N := some 73) (v := undef) (a' := ?_) #[true, true, true, true, true, true, true, true, false, false, false, false, false, false, false, false, false, false, false, false, false, false, false, false, false, false, false, false, false, false, false, false] rfl rfl (iQ HT_.out (by kernel_rfl)) (fun _ _ _ h => h) (Or.inr ⟨by rfl, rfl⟩) ?_ ?_
                    rotate_left
                    · simp only [Act.put, List.setIfInBounds_toArray, List.set_cons_zero, List.set_cons_succ, iR, iT]
                      rfl
                    refine jA (i := 8) (N := some 74) (v := undef) (a' := ?_) #[true, true, true, true, true, true, true, true, true, false, false, false, false, false, false, false, false, false, false, false, false, false, false, false, false, false, false, false, false, false, false, false] rfl rfl (iQ HT_.out (by kernel_rfl)) (fun _ _ _ h => h) (Or.inr ⟨by rfl, rfl⟩) ?_ ?_
                    rotate_left
                    · simp only [Act.put, List.setIfInBounds_toArray, List.set_cons_zero, List.set_cons_succ, iR, iT]
                      rfl
                    refine jA (i := 9) (N := some 75) (v := undef) (a' := ?_) #[true, true, true, true, true, true, true, true, true, true, false, false, false, false, false, false, false, false, false, false, false, false, false, false, false, false, false, false, false, false, false, false] rfl rfl (iQ HT_.out (by kernel_rfl)) (fun _ _ _ h => h) (Or.inr ⟨by rfl, rfl⟩) ?_ ?_
                    rotate_left
                    · simp only [Act.put, List.setIfInBounds_toArray, List.set_cons_zero, List.set_cons_succ, iR, iT]
                      rfl
                    refine jA (i := 10) (N := some 76) (v := undef) (a' := ?_) #[true, true, true, true, true, true, true, true, true, true, true, false, false, false, false, false, false, false, false, false, false, false, false, false, false, false, false, false, false, false, false, false] rfl rfl (iQ HT_.out (by kernel_rfl)) (fun _ _ _ h => h) (Or.inr ⟨by rfl, rfl⟩) ?_ ?_
                    rotate_left
                    · simp only [Act.put, List.setIfInBounds_toArray, List.set_cons_zero, List.set_cons_succ, iR, iT]
                      rfl
                    refine jA (i := 11) (N := some 77) (v := undef) (a' := ?_) #[true, true, true, true, true, true, true, true, true, true, true, true, false, false, false, false, false, false, false, false, false, false, false, false, false, false, false, false, false, false, false, false] rfl rfl (iQ HT_.out (by kernel_rfl)) (fun _ _ _ h => h) (Or.inr ⟨by rfl, rfl⟩) ?_ ?_
                    rotate_left
                    · simp only [Act.put, List.setIfInBounds_toArray, List.set_cons_zero, List.set_cons_succ, iR, iT]
                      rfl
                    refine jA (i := 12) (N := some 78) (v := undef) (a' := ?_) #[true, true, true, true, true, true, true, true, true, true, true, true, true, false, false, false, false, false, false, false, false, false, false, false, false, false, false, false, false, false, false, false] rfl rfl (iQ HT_.out (by kernel_rfl)) (fun _ _ _ h => h) (Or.inr ⟨by rfl, rfl⟩) ?_ ?_
                    rotate_left
                    · simp only [Act.put, List.setIfInBounds_toArray, List.set_cons_zero, List.set_cons_succ, iR, iT]
                      rfl
                    refine jA (i := 13) (N := some 79) (v := undef) (a' := ?_) #[true, true, true, true, true, true, true, true, true, true, true, true, true, true, false, false, false, false, false, false, false, false, false, false, false, false, false, false, false, false, false, false] rfl rfl (iQ HT_.out (by kernel_rfl)) (fun _ _ _ h => h) (Or.inr ⟨by rfl, rfl⟩) ?_ ?_
                    rotate_left
                    · simp only [Act.put, List.setIfInBounds_toArray, List.set_cons_zero, List.set_cons_succ, iR, iT]
                      rfl
                    refine jA (i := 14) (N := some 80) (v := undef) (a' := ?_) #[true, true, true, true, true, true, true, true, true, true, true, true, true, true, true, false, false, false, false, false, false, false, false, false, false, false, false, false, false, false, false, false] rfl rfl (iQ HT_.out (by kernel_rfl)) (fun _ _ _ h => h) (Or.inr ⟨by rfl, rfl⟩) ?_ ?_
                    rotate_left
                    · simp only [Act.put, List.setIfInBounds_toArray, List.set_cons_zero, List.set_cons_succ, iR, iT]
                      rfl
                    refine jA (i := 15) (N := some 81) (v := ?_) (a' := ?_) #[true, true, true, true, true, true, true, true, true, true, true, true, true, true, true, true, false, false, false, false, false, false, false, false, false, false, false, false, false, false, false, false] rfl rfl (iQ HT_.out (by kernel_rfl)) (fun _ _ _ h => h) (Or.inl ⟨by rfl, ?_⟩) ?_ ?_
                    rotate_left
                    · intro w'
                      go_simp
                      with_reducible rfl
                    rotate_left
                    · simp only [Act.put, List.setIfInBounds_toArray, List.set_cons_zero, List.set_cons_succ, iR, iT]
                      rfl
                    refine jA (i := 16) (N := some 82) (v := ?_) (a' := ?_) #[true, true, true, true, true, true, true, true, true, true, true, true, true, true, true, true, true, false, false, false, false, false, false, false, false, false, false, false, false, false, false, false] rfl rfl (iQ HT_.out (by kernel_rfl)) (fun _ _ _ h => h) (Or.inl ⟨by rfl, ?_⟩) ?_ ?_
                    rotate_left
                    · intro w'
                      go_simp
                      with_reducible rfl
                    rotate_left
                    · simp only [Act.put, List.setIfInBounds_toArray, List.set_cons_zero, List.set_cons_succ, iR, iT]
                      rfl
                    refine jA (i := 17) (N := some 83) (v := undef) (a' := ?_) #[true, true, true, true, true, true, true, true, true, true, true, true, true, true, true, true, true, true, false, false, false, false, false, false, false, false, false, false, false, false, false, false] rfl rfl (iQ HT_.out (by kernel_rfl)) (fun _ _ _ h => h) (Or.inr ⟨by rfl, rfl⟩) ?_ ?_
                    rotate_left
                    · simp only [Act.put, List.setIfInBounds_toArray, List.set_cons_zero, List.set_cons_succ, iR, iT]
                      rfl
                    refine jA (i := 18) (N := some 84) (v := undef) (a' := ?_) #[true, true, true, true, true, true, true, true, true, true, true, true, true, true, true, true, true, true, true, false, false, false, false, false, false, false, false, false, false, false, false, false] rfl rfl (iQ HT_.out (by kernel_rfl)) (fun _ _ _ h => h) (Or.inr ⟨by rfl, rfl⟩) ?_ ?_
                    rotate_left
                    · simp only [Act.put, List.setIfInBounds_toArray, List.set_cons_zero, List.set_cons_succ, iR, iT]
                      rfl
                    refine jA (i := 19) (N := some 85) (v := undef) (a' := ?_) #[true, true, true, true, true, true, true, true, true, true, true, true, true, true, true, true, true, true, true, true, false, false, false, false, false, false, false, false, false, false, false, false] rfl rfl (iQ HT_.out (by kernel_rfl)) (fun _ _ _ h => h) (Or.inr ⟨by rfl, rfl⟩) ?_ ?_
                    rotate_left
                    · simp only [Act.put, List.setIfInBounds_toArray, List.set_cons_zero, List.set_cons_succ, iR, iT]
                      rfl
                    refine jA (i := 20) (N := some 86) (v := undef) (a' := ?_) #[true, true, true, true, true, true, true, true, true, true, true, true, true, true, true, true, true, true, true, true, true, false, false, false, false, false, false, false, false, false, false, false] rfl rfl (iQ HT_.out (by kernel_rfl)) (fun _ _ _ h => h) (Or.inr ⟨by rfl, rfl⟩) ?_ ?_
                    rotate_left
                    · simp only [Act.put, List.setIfInBounds_toArray, List.set_cons_zero, List.set_cons_succ, iR, iT]
                      rfl
                    refine jA (i := 21) (N := some 87) (v := undef) (a' := ?_) #[true, true, true, true, true, true, true, true, true, true, true, true, true, true, true, true, true, true, true, true, true, true, false, false, false, false, false, false, false, false, false, false] rfl rfl (iQ HT_.out (by kernel_rfl)) (fun _ _ _ h => h) (Or.inr ⟨by rfl, rfl⟩) ?_ ?_
                    rotate_left
                    · simp only [Act.put, List.setIfInBounds_toArray, List.set_cons_zero, List.set_cons_succ, iR, iT]
                      rfl
                    refine jA (i := 22) (N := some 88) (v := undef) (a' := ?_) #[true, true, true, true, true, true, true, true, true, true, true, true, true, true, true, true, true, true, true, true, true, true, true, false, false, false, false, false, false, false, false, false] rfl rfl (iQ HT_.out (by kernel_rfl)) (fun _ _ _ h => h) (Or.inr ⟨by rfl, rfl⟩) ?_ ?_
                    rotate_left
                    · simp only [Act.put, List.setIfInBounds_toArray, List.set_cons_zero, List.set_cons_succ, iR, iT]
                      rfl
                    refine jA (i := 23) (N := some 89) (v := undef) (a' := ?_) #[true, true, true, true, true, true, true, true, true, true, true, true, true, true, true, true, true, true, true, true, true, true, true, true, false, false, false, false, false, false, false, false] rfl rfl (iQ HT_.out (by kernel_rfl)) (fun _ _ _ h => h) (Or.inr ⟨by rfl, rfl⟩) ?_ ?_
                    rotate_left
                    · simp only [Act.put, List.setIfInBounds_toArray, List.set_cons_zero, List.set_cons_succ, iR, iT]
                      rfl
                    refine jA (i := 24) (N := some 90) (v := undef) (a' := ?_) #[true, true, true, true, true, true, true, true, true, true, true, true, true, true, true, true, true, true, true, true, true, true, true, true, true, false, false, false, false, false, false, false] rfl rfl (iQ HT_.out (by kernel_rfl)) (fun _ _ _ h => h) (Or.inr ⟨by rfl, rfl⟩) ?_ ?_
                    rotate_left
                    · simp only [Act.put, List.setIfInBounds_toArray, List.set_cons_zero, List.set_cons_succ, iR, iT]
                      rfl
                    refine jA (i := 25) (N := some 91) (v := undef) (a' := ?_) #[true, true, true, true, true, true, true, true, true, true, true, true, true, true, true, true, true, true, true, true, true, true, true, true, true, true, false, false, false, false, false, false] rfl rfl (iQ HT_.out (by kernel_rfl)) (fun _ _ _ h => h) (Or.inr ⟨by rfl, rfl⟩) ?_ ?_
                    rotate_left
                    · simp only [Act.put, List.setIfInBounds_toArray, List.set_cons_zero, List.set_cons_succ, iR, iT]
                      rfl
                    refine jA (i := 26) (N := some 92) (v := undef) (a' := ?_) #[true, true, true, true, true, true, true, true, true, true, true, true, true, true, true, true, true, true, true, true, true, true, true, true, true, true, true, false, false, false, false, false] rfl rfl (iQ HT_.out (by kernel_rfl)) (fun _ _ _ h => h) (Or.inr ⟨by rfl, rfl⟩) ?_ ?_
                    rotate_left
                    · simp only [Act.put, List.setIfInBounds_toArray, List.set_cons_zero, List.set_cons_succ, iR, iT]
                      rfl
                    refine jA (i := 27) (N := some 93) (v := undef) (a' := ?_) #[true, true, true, true, true, true, true, true, true, true, true, true, true, true, true, true, true, true, true, true, true, true, true, true, true, true, true, true, false, false, false, false] rfl rfl (iQ HT_.out (by kernel_rfl)) (fun _ _ _ h => h) (Or.inr ⟨by rfl, rfl⟩) ?_ ?_
                    rotate_left
                    · simp only [Act.put, List.setIfInBounds_toArray, List.set_cons_zero, List.set_cons_succ, iR, iT]
                      rfl
                    refine jA (i := 28) (N := some 94) (v := undef) (a' := ?_) #[true, true, true, true, true, true, true, true, true, true, true, true, true, true, true, true, true, true, true, true, true, true, true, true, true, true, true, true, true, false, false, false] rfl rfl (iQ HT_.out (by kernel_rfl)) (fun _ _ _ h => h) (Or.inr ⟨by rfl, rfl⟩) ?_ ?_
                    rotate_left
                    · simp only [Act.put, List.setIfInBounds_toArray, List.set_cons_zero, List.set_cons_succ, iR, iT]
                      rfl
                    refine jA (i := 29) (N := some 95) (v := undef) (a' := ?_) #[true, true, true, true, true, true, true, true, true, true, true, true, true, true, true, true, true, true, true, true, true, true, true, true, true, true, true, true, true, true, false, false] rfl rfl (iQ HT_.out (by kernel_rfl)) (fun _ _ _ h => h) (Or.inr ⟨by rfl, rfl⟩) ?_ ?_
                    rotate_left
                    · simp only [Act.put, List.setIfInBounds_toArray, List.set_cons_zero, List.set_cons_succ, iR, iT]
                      rfl
                    refine jA (i := 30) (N := some 96) (v := ?_) (a' := ?_) #[true, true, true, true, true, true, true, true, true, true, true, true, true, true, true, true, true, true, true, true, true, true, true, true, true, true, true, true, true, true, true, false] rfl rfl (iQ HT_.out (by kernel_rfl)) (fun _ _ _ h => h) (Or.inl ⟨by rfl, ?_⟩) ?_ ?_
                    rotate_left
                    · intro w'
                      go_simp
                      with_reducible rfl
                    rotate_left
                    · simp only [Act.put, List.setIfInBounds_toArray, List.set_cons_zero, List.set_cons_succ, iR, iT]
                      rfl
                    refine jA (i := 31) (N := some 12) (v := ?_) (a' := ?_) #[true, true, true, true, true, true, true, true, true, true, true, true, true, true, true, true, true, true, true, true, true, true, true, true, true, true, true, true, true, true, true, true] rfl rfl (iQ HT_.out (by kernel_rfl)) (fun _ _ _ h => h) (Or.inl ⟨by rfl, ?_⟩) ?_ ?_
                    rotate_left
                    · intro w'
                      go_simp
                      with_reducible rfl
                    rotate_left
                    · simp only [Act.put, List.setIfInBounds_toArray, List.set_cons_zero, List.set_cons_succ, iR, iT]
                      rfl
                    refine lT (kH HT_.out (by kernel_rfl)) ?_
                    try go_wp2
                    go_ret
                    exact ⟨by first | rfl | (simp [iU, iV] <;> rfl) | (simp [*, iU, iV] <;> rfl), by repeat (first | (with_reducible first | exact HB.out | apply iG | apply iD | apply iF | refine iE ?_ GE407.out | refine iE ?_ GE414.out) | exact HB.out)⟩
end Go.Proofs.Ytjppookmjdaplaa.K
end

section
namespace Go.Proofs.Ytjppookmjdaplaa.K
open Go Go.RowKit Go.Proofs.YtjppookmjdaplaaW.PrintWords Go.Proofs.YtjppookmjdaplaaW.PrintLast Go.Proofs.YtjppookmjdaplaaW.PrintMore
def Evt {α : Type} (f : Nat → Option α) (r : α) : Prop := ∃ k0, ∀ k, k0 ≤ k → f k = some r
theorem Evt.now {α : Type} (r : α) : Evt (fun _ => some r) r := ⟨0, fun _ _ => rfl⟩
theorem Evt.congr {α : Type} {f g : Nat → Option α} {r : α} (h : ∀ k, f k = g k) (hg : Evt g r) : Evt f r := by
  obtain ⟨k0, h0⟩ := hg
  exact ⟨k0, fun k hk => (h k).trans (h0 k hk)⟩
theorem Evt.step {α : Type} {f g : Nat → Option α} {r : α} (h : ∀ k, f (k + 1) = g k) (hg : Evt g r) : Evt f r := by
  obtain ⟨k0, h0⟩ := hg
  refine ⟨k0 + 1, fun k hk => ?_⟩
  obtain ⟨j, rfl⟩ : ∃ j, k = j + 1 := ⟨k - 1, by omega⟩
  exact (h j).trans (h0 j (by omega))
theorem Evt.bind {α β : Type} {f : Nat → Option α} {g : Nat → α → Option β} {a : α} {r : β} (hf : Evt f a) (hg : Evt (fun k => g k a) r) : Evt (fun k => (f k).bind fun t => g k t) r := by
  obtain ⟨k0, h0⟩ := hf
  obtain ⟨k1, h1⟩ := hg
  exact ⟨k0 + k1, fun k hk => by show (f k).bind _ = _; rw [h0 k (by omega)]; exact h1 k (by omega)⟩
theorem zN (x : Int) : 0 ≤ IntKind.u64.wrap x := Int.emod_nonneg _ (by decide)
theorem rJ (a1 : Int) : ∀ (n : Nat) (l : List Int), n ≤ 8 → l.length + n ≤ 140737488355328 → ∃ t, t.length = l.length + n ∧ Evt (fun k => stratumref07_Put.l0 k l a1 ((n : Int) - 1)) t
  | 0, l, _, _ => ⟨l, rfl, Evt.step (g := fun _ => some l) (fun k => by rw [stratumref07_Put.l0, if_neg (by omega)]) (Evt.now _)⟩
  | n + 1, l, hn, hl => by
    obtain ⟨t, h1, h2⟩ := rJ a1 n (l ++ [(shr .u64 a1 (IntKind.u64.wrap (8 * (IntKind.u64.wrap ((n + 1 : Nat) - 1 : Int))))) % 256]) (by omega) (by rw [List.length_append]; simp only [List.length_cons, List.length_nil]; omega)
    refine ⟨t, by rw [h1, List.length_append]; simp only [List.length_cons, List.length_nil]; omega, Evt.step (fun k => ?_) h2⟩
    rw [stratumref07_Put.l0, if_pos (by omega), if_pos (zN _), if_pos (by omega), show wrap64 ((((n + 1 : Nat) : Int) - 1) - 1) = (n : Int) - 1 from by unfold wrap64; omega]
theorem xZ (a1 : Int) (n : Nat) (l : List Int) (hn : n ≤ 8) (hl : l.length + n ≤ 140737488355328) : ∃ t, t.length = l.length + n ∧ Evt (fun k => stratumref07_Put.f k l a1 (n : Int)) t := by
  unfold stratumref07_Put.f
  rw [show wrap64 ((n : Int) - 1) = n - 1 from by unfold wrap64; omega]
  exact rJ a1 n l hn hl
/-- How many bytes facts make. -/
def fsz (xs : List TFa) : Nat := (xs.map fun x => 9 + 4 * x.f0.length).sum
theorem lS (x : TFa) (xs : List TFa) : fsz (x :: xs) = 9 + 4 * x.f0.length + fsz xs := rfl
theorem rD {xs : List TFa} {x : TFa} (h : x ∈ xs) : 4 * x.f0.length ≤ fsz xs := by
  induction xs with
  | nil => cases h
  | cons y r ih =>
    rw [lS]
    rcases List.mem_cons.1 h with rfl | h
    · omega
    · have := ih h; omega
theorem mP (p : TFa → Bool) (xs : List TFa) : fsz (xs.filter p) ≤ fsz xs := by
  induction xs with
  | nil => exact Nat.le_refl _
  | cons y r ih =>
    rw [List.filter_cons]
    split
    · rw [lS, lS]; omega
    · rw [lS]; omega
theorem nK (xs : List TFa) (i : Nat) (h : i < xs.length) : iW xs (i : Int) = xs[i] := rO xs i h
theorem rY (xs : List TFa) (i : Nat) (hi : i < xs.length) (hs : xs.length ≤ 1000000) (hK : xs[i].f0.length ≤ 1000000000) (m : Nat)
    (hR : ∀ l : List Int, l.length + m ≤ 140737488355328 → ∃ t, Evt (fun k => stratumref07_Facts.l0 k l xs ((i + 1 : Nat) : Int)) t) :
    ∀ (n j : Nat) (l : List Int), j + n = xs[i].f0.length → l.length + 4 * n + 8 + m ≤ 140737488355328 → ∃ t, Evt (fun k => stratumref07_Facts.l1 k l xs (i : Int) (j : Int)) t
  | 0, j, l, hj, hl => by
    obtain ⟨t1, h1, h2⟩ := xZ (IntKind.u64.wrap xs[i].f1) 8 l (by omega) (by omega)
    obtain ⟨t, h3⟩ := hR t1 (by omega)
    refine ⟨t, Evt.step (fun k => ?_) (Evt.bind (g := fun k t => stratumref07_Facts.l0 k t xs ((i + 1 : Nat) : Int)) h2 h3)⟩
    rw [stratumref07_Facts.l1, if_pos (by omega), if_pos (by omega), nK xs i hi, if_neg (by omega), lG i (by omega)]
    rfl
  | n + 1, j, l, hj, hl => by
    obtain ⟨t1, h1, h2⟩ := xZ (IntKind.u64.wrap (rd xs[i].f0 j)) 4 l (by omega) (by omega)
    obtain ⟨t, h3⟩ := rY xs i hi hs hK m hR n (j + 1) t1 (by omega) (by omega)
    refine ⟨t, Evt.step (fun k => ?_) (Evt.bind (g := fun k t => stratumref07_Facts.l1 k t xs (i : Int) ((j + 1 : Nat) : Int)) h2 h3)⟩
    rw [stratumref07_Facts.l1, if_pos (by omega), if_pos (by omega), nK xs i hi, if_pos (by omega), if_pos (by omega), lG j (by omega)]
    rfl
theorem rP (xs : List TFa) (hs : xs.length ≤ 1000000) (hf : fsz xs ≤ 1000000000) : ∀ (n i : Nat) (l : List Int), i + n = xs.length → l.length + fsz (xs.drop i) ≤ 140737488355328 → ∃ t, Evt (fun k => stratumref07_Facts.l0 k l xs (i : Int)) t
  | 0, i, l, hi, hl => ⟨l, Evt.step (g := fun _ => some l) (fun k => by rw [stratumref07_Facts.l0, if_neg (by omega)]) (Evt.now _)⟩
  | n + 1, i, l, hi, hl => by
    have hlt : i < xs.length := by omega
    have hd := drop_cons xs i hlt
    rw [hd, lS] at hl
    have hk := rD (List.getElem_mem hlt)
    obtain ⟨t1, h1, h2⟩ := xZ (IntKind.u64.wrap (xs[i].f0.length : Int)) 1 l (by omega) (by omega)
    obtain ⟨t, h3⟩ := rY xs i hlt hs (by omega) (fsz (xs.drop (i + 1))) (fun l' hl' => rP xs hs hf n (i + 1) l' (by omega) hl') xs[i].f0.length 0 t1 (by omega) (by omega)
    refine ⟨t, Evt.step (fun k => ?_) (Evt.bind (g := fun k t => stratumref07_Facts.l1 k t xs (i : Int) ((0 : Nat) : Int)) h2 h3)⟩
    rw [stratumref07_Facts.l0, if_pos (by omega), if_pos (by omega), nK xs i hlt]
    rfl
theorem pM (xs : List TFa) (hs : xs.length ≤ 1000000) (hf : fsz xs ≤ 1000000000) : Evt (fun k => stratumref07_SameFacts.f k xs xs) true := by
  obtain ⟨t1, h1, h2⟩ := xZ (IntKind.u64.wrap (xs.length : Int)) 4 [] (by omega) (by simp)
  obtain ⟨t, h3⟩ := rP xs hs hf xs.length 0 t1 (by omega) (by rw [List.drop_zero, h1]; simp only [List.length_nil]; omega)
  have hF : Evt (fun k => stratumref07_Facts.f k [] xs) t := Evt.congr (fun k => by unfold stratumref07_Facts.f; rfl) (Evt.bind h2 h3)
  refine Evt.congr (fun k => by unfold stratumref07_SameFacts.f; rfl) (Evt.bind hF (Evt.bind hF ?_))
  simp only [beq_self_eq_true]
  exact Evt.now _
theorem xB (xs : List TFa) (hs : xs.length ≤ 1000000) (hf : fsz xs ≤ 1000000000) : ∀ (n i k : Nat), i + n = xs.length → n < k → stratumref07_CopyFacts.l0 k xs (xs.take i) i = some xs
  | 0, i, 0, _, h => by omega
  | 0, i, k + 1, hi, _ => by rw [stratumref07_CopyFacts.l0, if_neg (by omega), List.take_of_length_le (by omega)]
  | n + 1, i, 0, _, h => by omega
  | n + 1, i, k + 1, hi, hk => by
    have hlt : i < xs.length := by omega
    have hkk := rD (List.getElem_mem hlt)
    have ht : xs.take (i + 1) = xs.take i ++ [xs[i]] := by rw [List.take_add_one, List.getElem?_eq_getElem hlt]; rfl
    rw [stratumref07_CopyFacts.l0, if_pos (by omega), if_pos (by omega), nK xs i hlt, if_pos (by simp only [List.length_nil]; omega), if_pos (by rw [List.length_take]; omega), List.nil_append, lG i (by omega), ← xB xs hs hf n (i + 1) k (by omega) (by omega), ht]
theorem qH (a : Int) (L : List TSp) (hL : (L.length : Int) ≤ 1000000) (xs : List TFa) (hs : xs.length ≤ 1000000) (hf : fsz xs ≤ 1000000000) (node : Int) :
    ∀ (n i k : Nat), i + n = xs.length → n + L.length + xs.length + 3 < k → stratumref12_Parts.l0 k xs node (kL L (xs.take i) node) i a L = some (kL L xs node)
  | _, i, 0, _, h => by omega
  | 0, i, k + 1, hi, hk => by
    have hpl : (kL L xs node).length ≤ xs.length := List.length_filter_le _ _
    rw [stratumref12_Parts.l0, if_neg (by omega), List.take_of_length_le (by omega), stratumref07_CopyFacts.f]
    have := xB (kL L xs node) (by omega) (Nat.le_trans (mP _ _) hf) (kL L xs node).length 0 k (by omega) (by omega)
    rw [List.take_zero] at this
    rw [show ((0 : Nat) : Int) = 0 from rfl] at this
    rw [this]; rfl
  | n + 1, i, k + 1, hi, hk => by
    have hlt : i < xs.length := by omega
    have ht : xs.take (i + 1) = xs.take i ++ [xs[i]] := by rw [List.take_add_one, List.getElem?_eq_getElem hlt]; rfl
    have ih := qH a L hL xs hs hf node n (i + 1) k (by omega) (by omega)
    have hp : kL L (xs.take (i + 1)) node = kL L (xs.take i) node ++ (if mF L node xs[i] = true then [xs[i]] else []) := by
      rw [ht]; unfold kL; rw [List.filter_append, List.filter_cons, List.filter_nil]
    rw [stratumref12_Parts.l0, if_pos (by omega), if_pos (by omega), nK xs i hlt, lG i (by omega)]
    rw [hp] at ih
    unfold mF at ih
    by_cases h1 : 0 < xs[i].f0.length
    · rw [if_pos (by omega), if_pos (by omega), oP k a L _ hL (by omega)]
      show (if jY L (rd xs[i].f0 0) = node then _ else _) = _
      by_cases h2 : jY L (rd xs[i].f0 0) = node
      · have hpl : (kL L (xs.take i) node).length ≤ xs.length := Nat.le_trans (List.length_filter_le _ _) (by rw [List.length_take]; omega)
        rw [if_pos h2, if_pos (by omega)]
        simp only [h1, h2, decide_true, Bool.and_self, if_true] at ih
        exact ih
      · rw [if_neg h2]
        simp only [h1, h2, decide_true, decide_false, Bool.and_false, Bool.false_eq_true, if_false, List.append_nil] at ih
        exact ih
    · rw [if_neg (by omega)]
      simp only [h1, decide_false, Bool.false_and, Bool.false_eq_true, if_false, List.append_nil] at ih
      exact ih
theorem qA (a : Int) (L : List TSp) (hL : (L.length : Int) ≤ 1000000) (xs : List TFa) (hs : xs.length ≤ 1000000) (hf : fsz xs ≤ 1000000000) (node : Int) : Evt (fun k => stratumref12_Parts.f k a L xs node) (kL L xs node) :=
  ⟨xs.length + L.length + xs.length + 4, fun k hk => by
    unfold stratumref12_Parts.f
    have := qH a L hL xs hs hf node xs.length 0 k (by omega) (by omega)
    rw [List.take_zero] at this
    exact this⟩
end Go.Proofs.Ytjppookmjdaplaa.K
end
