/- Parts of the proof, one behind the other: K58, SpW0, SpW7, Came, CameS, CameP. -/
import Derived.Test.YtbpdejbkfpkphaaQSpansWhole8
import Derived.Test.YtbpdejbkfpkphaaRows
import Derived.Deep.Slices
import Derived.ChangeSame
set_option linter.unusedVariables false
set_option linter.unusedSimpArgs false
section
namespace Go.Proofs.Ytbpdejbkfpkphaa.K
open Go.RowKit Go.Proofs.YtbpdejbkfpkphaaW.PrintWords Go.Proofs.YtbpdejbkfpkphaaW.PrintLast Go.Proofs.YtbpdejbkfpkphaaW.PrintMore
attribute [local go_sem] jU jT jZ jY jO jP jW jV
mutual
def stratumlaw12_SpansWhole.j0 : Nat → List (S55) → List (S77) → Bool → Option (Bool)
  | 0, _, _, _ => none
  | k + 1, x0, x1, x18 => if x18 = true then ((stratumlaw12_known.f k).bind fun t595 => (some t595)) else ((stratumlaw12_Of.f k 100 4 x0).bind fun bt596 => (stratumlaw12_SpansWhole.l0 k x1 0 0 0 bt596.1 bt596.2))
def stratumlaw12_SpansWhole.l0 : Nat → List (S77) → Int → Int → Int → Int → List (S60) → Option (Bool)
  | 0, _, _, _, _, _, _ => none
  | k + 1, x1, x6, x7, x8, x601000, x601001 => if x8 < (x1.length : Int) then (if 0 ≤ x8 then (if (((iV x1 x8).f0).length : Int) > 0 then (if 0 < (((iV x1 x8).f0).length : Int) then (if (rd ((iV x1 x8).f0) 0) ≥ 0 then (stratumlaw12_SpansWhole.l0 k x1 x6 (wrap64 (x7 + 1)) (wrap64 (x8 + 1)) x601000 x601001) else (stratumlaw12_SpansWhole.l0 k x1 x6 x7 (wrap64 (x8 + 1)) x601000 x601001)) else (none)) else (stratumlaw12_SpansWhole.l0 k x1 x6 x7 (wrap64 (x8 + 1)) x601000 x601001)) else (none)) else (stratumlaw12_SpansWhole.l1 k x1 x6 x7 0 x601000 x601001)
def stratumlaw12_SpansWhole.l1 : Nat → List (S77) → Int → Int → Int → Int → List (S60) → Option (Bool)
  | 0, _, _, _, _, _, _ => none
  | k + 1, x1, x6, x7, x9, x601000, x601001 => if x9 < 4 then ((spans_Parts.f k x601000 x601001 x1 x9).bind fun t604 => (stratumlaw12_SpansWhole.l2 k x1 (wrap64 (x6 + (t604.length : Int))) x7 x9 t604 0 x601000 x601001)) else (some (x6 == x7))
def stratumlaw12_SpansWhole.l2 : Nat → List (S77) → Int → Int → Int → List (S77) → Int → Int → List (S60) → Option (Bool)
  | 0, _, _, _, _, _, _, _, _ => none
  | k + 1, x1, x6, x7, x9, x10, x11, x601000, x601001 => if x11 < (x10.length : Int) then (if 0 ≤ x11 then (if 0 < (((iV x10 x11).f0).length : Int) then ((spans_Find.f x601000 x601001 (rd ((iV x10 x11).f0) 0)).bind fun t609 => (if t609 = x9 then (stratumlaw12_SpansWhole.l2 k x1 x6 x7 x9 x10 (wrap64 (x11 + 1)) x601000 x601001) else (some false))) else (none)) else (none)) else (stratumlaw12_SpansWhole.l1 k x1 x6 x7 (wrap64 (x9 + 1)) x601000 x601001)
end
def stratumlaw12_SpansWhole.f (k : Nat) (l0 : List (S55)) (l1 : List (S77)) : Option (Bool) := if (l1.length : Int) > 100 then (stratumlaw12_SpansWhole.j0 k l0 l1 true) else ((stratumlaw12_known.f k).bind fun t594 => (stratumlaw12_SpansWhole.j0 k l0 l1 (!t594)))
theorem stratumlaw12_SpansWhole.mono_l : ∀ k, (∀ y0 y1 y2, LeO (stratumlaw12_SpansWhole.j0 k y0 y1 y2) (stratumlaw12_SpansWhole.j0 (k + 1) y0 y1 y2)) ∧ (∀ y0 y1 y2 y3 y4 y5, LeO (stratumlaw12_SpansWhole.l0 k y0 y1 y2 y3 y4 y5) (stratumlaw12_SpansWhole.l0 (k + 1) y0 y1 y2 y3 y4 y5)) ∧ (∀ y0 y1 y2 y3 y4 y5, LeO (stratumlaw12_SpansWhole.l1 k y0 y1 y2 y3 y4 y5) (stratumlaw12_SpansWhole.l1 (k + 1) y0 y1 y2 y3 y4 y5)) ∧ (∀ y0 y1 y2 y3 y4 y5 y6 y7, LeO (stratumlaw12_SpansWhole.l2 k y0 y1 y2 y3 y4 y5 y6 y7) (stratumlaw12_SpansWhole.l2 (k + 1) y0 y1 y2 y3 y4 y5 y6 y7))
  | 0 => ⟨fun _ _ _ r h => by simp [stratumlaw12_SpansWhole.j0] at h, fun _ _ _ _ _ _ r h => by simp [stratumlaw12_SpansWhole.l0] at h, fun _ _ _ _ _ _ r h => by simp [stratumlaw12_SpansWhole.l1] at h, fun _ _ _ _ _ _ _ _ r h => by simp [stratumlaw12_SpansWhole.l2] at h⟩
  | k + 1 => by
    obtain ⟨ih0, ih1, ih2, ih3⟩ := stratumlaw12_SpansWhole.mono_l k
    refine ⟨?_, ?_, ?_, ?_⟩
    · intro y0 y1 y2
      unfold stratumlaw12_SpansWhole.j0
      repeat' first
      | (with_reducible exact ih0 _ _ _)
      | (with_reducible exact ih1 _ _ _ _ _ _)
      | (with_reducible exact ih2 _ _ _ _ _ _)
      | (with_reducible exact ih3 _ _ _ _ _ _ _ _)
      | (with_reducible exact spans_Parts.mono _ _ _ _ _)
      | (with_reducible exact stratumlaw12_Of.mono _ _ _ _)
      | (with_reducible exact stratumlaw12_known.mono _)
      | (with_reducible exact LeO.refl _)
      | (with_reducible exact LeO.none _)
      | (with_reducible refine LeO.ite ?_ ?_)
      | (with_reducible refine LeO.bind ?_ (fun _ => ?_))
      | exact ih0 _ _ _
      | exact ih1 _ _ _ _ _ _
      | exact ih2 _ _ _ _ _ _
      | exact ih3 _ _ _ _ _ _ _ _
      | exact spans_Parts.mono _ _ _ _ _
      | exact stratumlaw12_Of.mono _ _ _ _
      | exact stratumlaw12_known.mono _
      | exact LeO.none _
      | refine LeO.ite ?_ ?_
      | refine LeO.bind ?_ (fun _ => ?_)
    · intro y0 y1 y2 y3 y4 y5
      unfold stratumlaw12_SpansWhole.l0
      repeat' first
      | (with_reducible exact ih0 _ _ _)
      | (with_reducible exact ih1 _ _ _ _ _ _)
      | (with_reducible exact ih2 _ _ _ _ _ _)
      | (with_reducible exact ih3 _ _ _ _ _ _ _ _)
      | (with_reducible exact spans_Parts.mono _ _ _ _ _)
      | (with_reducible exact stratumlaw12_Of.mono _ _ _ _)
      | (with_reducible exact stratumlaw12_known.mono _)
      | (with_reducible exact LeO.refl _)
      | (with_reducible exact LeO.none _)
      | (with_reducible refine LeO.ite ?_ ?_)
      | (with_reducible refine LeO.bind ?_ (fun _ => ?_))
      | exact ih0 _ _ _
      | exact ih1 _ _ _ _ _ _
      | exact ih2 _ _ _ _ _ _
      | exact ih3 _ _ _ _ _ _ _ _
      | exact spans_Parts.mono _ _ _ _ _
      | exact stratumlaw12_Of.mono _ _ _ _
      | exact stratumlaw12_known.mono _
      | exact LeO.none _
      | refine LeO.ite ?_ ?_
      | refine LeO.bind ?_ (fun _ => ?_)
    · intro y0 y1 y2 y3 y4 y5
      unfold stratumlaw12_SpansWhole.l1
      repeat' first
      | (with_reducible exact ih0 _ _ _)
      | (with_reducible exact ih1 _ _ _ _ _ _)
      | (with_reducible exact ih2 _ _ _ _ _ _)
      | (with_reducible exact ih3 _ _ _ _ _ _ _ _)
      | (with_reducible exact spans_Parts.mono _ _ _ _ _)
      | (with_reducible exact stratumlaw12_Of.mono _ _ _ _)
      | (with_reducible exact stratumlaw12_known.mono _)
      | (with_reducible exact LeO.refl _)
      | (with_reducible exact LeO.none _)
      | (with_reducible refine LeO.ite ?_ ?_)
      | (with_reducible refine LeO.bind ?_ (fun _ => ?_))
      | exact ih0 _ _ _
      | exact ih1 _ _ _ _ _ _
      | exact ih2 _ _ _ _ _ _
      | exact ih3 _ _ _ _ _ _ _ _
      | exact spans_Parts.mono _ _ _ _ _
      | exact stratumlaw12_Of.mono _ _ _ _
      | exact stratumlaw12_known.mono _
      | exact LeO.none _
      | refine LeO.ite ?_ ?_
      | refine LeO.bind ?_ (fun _ => ?_)
    · intro y0 y1 y2 y3 y4 y5 y6 y7
      unfold stratumlaw12_SpansWhole.l2
      repeat' first
      | (with_reducible exact ih0 _ _ _)
      | (with_reducible exact ih1 _ _ _ _ _ _)
      | (with_reducible exact ih2 _ _ _ _ _ _)
      | (with_reducible exact ih3 _ _ _ _ _ _ _ _)
      | (with_reducible exact spans_Parts.mono _ _ _ _ _)
      | (with_reducible exact stratumlaw12_Of.mono _ _ _ _)
      | (with_reducible exact stratumlaw12_known.mono _)
      | (with_reducible exact LeO.refl _)
      | (with_reducible exact LeO.none _)
      | (with_reducible refine LeO.ite ?_ ?_)
      | (with_reducible refine LeO.bind ?_ (fun _ => ?_))
      | exact ih0 _ _ _
      | exact ih1 _ _ _ _ _ _
      | exact ih2 _ _ _ _ _ _
      | exact ih3 _ _ _ _ _ _ _ _
      | exact spans_Parts.mono _ _ _ _ _
      | exact stratumlaw12_Of.mono _ _ _ _
      | exact stratumlaw12_known.mono _
      | exact LeO.none _
      | refine LeO.ite ?_ ?_
      | refine LeO.bind ?_ (fun _ => ?_)
theorem stratumlaw12_SpansWhole.mono : ∀ a0 a1 k, LeO (stratumlaw12_SpansWhole.f k a0 a1) (stratumlaw12_SpansWhole.f (k + 1) a0 a1) := by
  intro a0 a1 k
  obtain ⟨ih0, ih1, ih2, ih3⟩ := stratumlaw12_SpansWhole.mono_l k
  unfold stratumlaw12_SpansWhole.f
  repeat' first
      | (with_reducible exact ih0 _ _ _)
      | (with_reducible exact ih1 _ _ _ _ _ _)
      | (with_reducible exact ih2 _ _ _ _ _ _)
      | (with_reducible exact ih3 _ _ _ _ _ _ _ _)
      | (with_reducible exact spans_Parts.mono _ _ _ _ _)
      | (with_reducible exact stratumlaw12_Of.mono _ _ _ _)
      | (with_reducible exact stratumlaw12_known.mono _)
      | (with_reducible exact LeO.refl _)
      | (with_reducible exact LeO.none _)
      | (with_reducible refine LeO.ite ?_ ?_)
      | (with_reducible refine LeO.bind ?_ (fun _ => ?_))
      | exact ih0 _ _ _
      | exact ih1 _ _ _ _ _ _
      | exact ih2 _ _ _ _ _ _
      | exact ih3 _ _ _ _ _ _ _ _
      | exact spans_Parts.mono _ _ _ _ _
      | exact stratumlaw12_Of.mono _ _ _ _
      | exact stratumlaw12_known.mono _
      | exact LeO.none _
      | refine LeO.ite ?_ ?_
      | refine LeO.bind ?_ (fun _ => ?_)
set_option maxHeartbeats 8000000 in
set_option maxRecDepth 100000 in
theorem stratumlaw12_SpansWhole.calls (k : Nat) (A0 : Option Addr) (c0 : Nat) (l0 : List (S55)) (A1 : Option Addr) (c1 : Nat) (l1 : List (S77)) (r : Bool) (w : World) (hr0 : Kd.C k55 w A0 l0.length l0) (hc0 : l0.length ≤ c0) (hr1 : Kd.C k77 w A1 l1.length l1) (hc1 : l1.length ≤ c1) (h : stratumlaw12_SpansWhole.f k l0 l1 = some r) :
    Calls Try.prog 12 #[.slice A0 l0.length c0, .slice A1 l1.length c1] w fun e w' => e = .returned (.bool r) ∧ Below w.heap.size w w' := by
  have hu42 := Try.underlying42
  have HR0 := iC.mk hr0
  have HC0 := iC.mk hc0
  clear hr0 hc0
  have HR1 := iC.mk hr1
  have HC1 := iC.mk hc1
  clear hr1 hc1
  have HB := iC.mk (Below.refl w.heap.size w)
  have H : (if (l1.length : Int) > 100 then (stratumlaw12_SpansWhole.j0 k l0 l1 true) else ((stratumlaw12_known.f k).bind fun t594 => (stratumlaw12_SpansWhole.j0 k l0 l1 (!t594)))) = some r := h
  clear h
  have HC3 := iC.mk H
  clear H
  go_enter Try.func12, Try.ntmps12
  go_upto_region 1 with (fail)
  repeat (go_quiet (fail); go_upto_region 1 with (fail))
  go_cut [18] (fun v18 wc => ∃ (kq : Nat) (x18_2 : Bool), v18 = .bool x18_2 ∧ iC (stratumlaw12_SpansWhole.j0 kq l0 l1 x18_2 = some r) ∧ iC (kq ≤ k) ∧ iC (Below w.heap.size w wc))
  case first =>
    have H := HC3.out
    clear HC3
    by_cases c4 : (l1.length : Int) > 100
    · rw [if_pos c4] at H
      have c4b0 : decide (100 < (l1.length : Int)) = true := decide_eq_true c4
      have c4b1 : decide (100 < l1.length) = true := decide_eq_true (by omega)
      clear c4
      (first | rw [c4b0] | (simp only [iY, iZ]; rw [c4b0]) | skip)
      have H' := iC.mk H
      clear H
      go_wp2
      repeat (go_quiet (fail); try go_wp2)
      go_meet
      case rel => exact ⟨_, (true), (by first | rfl | (simp; done) | (simp [*]; done)), H', ⟨by first | omega | exact Nat.le_refl _⟩, ⟨hb_⟩⟩
    · rw [if_neg c4] at H
      have c4b0 : decide (100 < (l1.length : Int)) = false := decide_eq_false c4
      have c4b1 : decide (100 < l1.length) = false := decide_eq_false (by omega)
      clear c4
      (first | rw [c4b0] | (simp only [iY, iZ]; rw [c4b0]) | skip)
      replace H := Option.bind_eq_some_iff.mp H
      obtain ⟨t594, A50, H⟩ := H
      replace H : (stratumlaw12_SpansWhole.j0 k l0 l1 (!t594)) = some r := H
      have A5 := iC.mk A50
      clear A50
      have H' := iC.mk H
      clear H
      go_wp2_with (first | (go_at_call 29; (with_reducible refine (stratumlaw12_known.calls k  t594 _ A5.out).mono ?_); rintro e w6 ⟨rfl, hb⟩; have n0_ := iC.mk (iK hb_ hb); clear HB; have HB := n0_; clear n0_; (try clear hb); (try clear hb2); (try clear hk); (try clear hi)))
      repeat (go_quiet (first | (go_at_call 29; (with_reducible refine (stratumlaw12_known.calls k  t594 _ A5.out).mono ?_); rintro e w6 ⟨rfl, hb⟩; have n0_ := iC.mk (iK hb_ hb); clear HB; have HB := n0_; clear n0_; (try clear hb); (try clear hb2); (try clear hk); (try clear hi))); try go_wp2_with (first | (go_at_call 29; (with_reducible refine (stratumlaw12_known.calls k  t594 _ A5.out).mono ?_); rintro e w6 ⟨rfl, hb⟩; have n0_ := iC.mk (iK hb_ hb); clear HB; have HB := n0_; clear n0_; (try clear hb); (try clear hb2); (try clear hk); (try clear hi))))
      go_meet
      case rel => exact ⟨_, (!t594), (by first | rfl | (simp; done) | (simp [*]; done)), H', ⟨by first | omega | exact Nat.le_refl _⟩, ⟨hb_⟩⟩
  case rest =>
    clear HC3
    try clear c1
    try clear p2
    try clear c4
    try clear c4b0
    try clear c4b1
    obtain ⟨kq, x18_2, rfl, HA, HJ2, HB⟩ := hcut
    cases kq with
    | zero => exact absurd HA.out (by simp [stratumlaw12_SpansWhole.j0])
    | succ kj2 =>
      have H := HA.out
      clear HA
      simp only [stratumlaw12_SpansWhole.j0] at H
      by_cases c7 : x18_2 = true
      · subst c7
        have H1 : ((stratumlaw12_known.f kj2).bind fun t595 => (some t595)) = some r := by rw [if_pos rfl] at H; exact H
        clear H
        have H := H1
        clear H1
        replace H := Option.bind_eq_some_iff.mp H
        obtain ⟨t595, A80, H⟩ := H
        replace H : (some t595) = some r := H
        have A8 := iC.mk A80
        clear A80
        obtain rfl := Option.some.inj H
        go_wp2_with (first | (go_at_call 29; (with_reducible refine (stratumlaw12_known.calls kj2  t595 _ A8.out).mono ?_); rintro e w9 ⟨rfl, hb⟩; have n0_ := iC.mk (iK hb_ hb); clear HB; have HB := n0_; clear n0_; (try clear hb); (try clear hb2); (try clear hk); (try clear hi)))
        repeat (go_quiet (first | (go_at_call 29; (with_reducible refine (stratumlaw12_known.calls kj2  t595 _ A8.out).mono ?_); rintro e w9 ⟨rfl, hb⟩; have n0_ := iC.mk (iK hb_ hb); clear HB; have HB := n0_; clear n0_; (try clear hb); (try clear hb2); (try clear hk); (try clear hi))); try go_wp2_with (first | (go_at_call 29; (with_reducible refine (stratumlaw12_known.calls kj2  t595 _ A8.out).mono ?_); rintro e w9 ⟨rfl, hb⟩; have n0_ := iC.mk (iK hb_ hb); clear HB; have HB := n0_; clear n0_; (try clear hb); (try clear hb2); (try clear hk); (try clear hi))))
        go_ret
        exact ⟨by first | rfl | (simp [iR, iQ] <;> rfl) | (simp [*, iR, iQ] <;> rfl), hb_⟩
      · replace c7 := Bool.eq_false_iff.mpr c7
        subst c7
        have H1 : ((stratumlaw12_Of.f kj2 100 4 l0).bind fun bt596 => (stratumlaw12_SpansWhole.l0 kj2 l1 0 0 0 bt596.1 bt596.2)) = some r := by rw [if_neg (show ¬ (false = true) by decide)] at H; exact H
        clear H
        have H := H1
        clear H1
        replace H := Option.bind_eq_some_iff.mp H
        obtain ⟨⟨t596, t597⟩, A100, H⟩ := H
        replace H : (stratumlaw12_SpansWhole.l0 kj2 l1 0 0 0 t596 t597) = some r := H
        have A10 := iC.mk A100
        clear A100
        have H' := iC.mk H
        clear H
        go_wp2_with (first | (go_at_call 24; (with_reducible refine (stratumlaw12_Of.calls kj2 100 4 _ _ l0 t596 t597 _ ?side1 ?side2 A10.out).mono ?_); (case side1 => repeat (first | exact (Kd.C_below HR0.out HB.out) | (with_reducible refine Kd.C_alloc ?_ _) | (with_reducible refine Kd.C_drewN ?_ _) | (with_reducible refine Kd.C_drew ?_))); (case side2 => exact HC0.out); rintro e w11 ⟨v598, rfl, ho0, hb⟩; have n0_ := iC.mk (Kd.R_lower ho0 (iJ hb_)); have n1_ := iC.mk (iK hb_ hb); clear HB; have HO599 := n0_; have HB := n1_; clear n0_ n1_; (try clear hb); (try clear hb2); (try clear hk); (try clear hi); (try clear ho0)) | ((with_reducible refine jC (N := 5) rfl ?_); refine jA ?hg (N := 5) ?hd (cs := #[.int .u32 0, .slice none 0 0]) (t := 42) ?hr ?_; (case hd => rfl); (case hg => rfl); (case hr => first | (go_simp; done) | (go_simp; rfl)); intro gb600 hg w12 hbox hb; have n0_ := iC.mk (Kd.R_below (by (with_reducible repeat (first | apply Kd.R_alloc | apply Kd.R_drewN | apply Kd.R_drew)); exact HO599.out) hb); have n1_ := iC.mk (iK hb_ hb); have n2_ := iC.mk (hbox); have n3_ := iC.mk ((by rw [hg]; exact (iJ hb_) : w.heap.size ≤ gb600)); have n4_ := iC.mk ((by rw [hg]; exact (iJ hb_) : w.heap.size ≤ gb600)); clear HO599; clear HB; have HO599 := n0_; have HB := n1_; have BK600 := n2_; have GW600 := n3_; have GE600 := n4_; clear n0_ n1_ n2_ n3_ n4_; clear hb hbox hg; have hcz13_0 : w12.cell? ⟨gb600, 0, none⟩ = some (.int .u32 0) := (iI BK600.out 0).trans rfl; have hcz13_1 : w12.cell? ⟨gb600, 1, none⟩ = some (.slice none 0 0) := (iI BK600.out 1).trans rfl; have hfz13_0 := iH BK600.out 0; have hfz13_1 := iH BK600.out 1; obtain ⟨Ao14, co14, eo14⟩ := Kd.R_slice HO599.out; subst eo14))
        repeat (go_quiet (first | (go_at_call 24; (with_reducible refine (stratumlaw12_Of.calls kj2 100 4 _ _ l0 t596 t597 _ ?side1 ?side2 A10.out).mono ?_); (case side1 => repeat (first | exact (Kd.C_below HR0.out HB.out) | (with_reducible refine Kd.C_alloc ?_ _) | (with_reducible refine Kd.C_drewN ?_ _) | (with_reducible refine Kd.C_drew ?_))); (case side2 => exact HC0.out); rintro e w11 ⟨v598, rfl, ho0, hb⟩; have n0_ := iC.mk (Kd.R_lower ho0 (iJ hb_)); have n1_ := iC.mk (iK hb_ hb); clear HB; have HO599 := n0_; have HB := n1_; clear n0_ n1_; (try clear hb); (try clear hb2); (try clear hk); (try clear hi); (try clear ho0)) | ((with_reducible refine jC (N := 5) rfl ?_); refine jA ?hg (N := 5) ?hd (cs := #[.int .u32 0, .slice none 0 0]) (t := 42) ?hr ?_; (case hd => rfl); (case hg => rfl); (case hr => first | (go_simp; done) | (go_simp; rfl)); intro gb600 hg w12 hbox hb; have n0_ := iC.mk (Kd.R_below (by (with_reducible repeat (first | apply Kd.R_alloc | apply Kd.R_drewN | apply Kd.R_drew)); exact HO599.out) hb); have n1_ := iC.mk (iK hb_ hb); have n2_ := iC.mk (hbox); have n3_ := iC.mk ((by rw [hg]; exact (iJ hb_) : w.heap.size ≤ gb600)); have n4_ := iC.mk ((by rw [hg]; exact (iJ hb_) : w.heap.size ≤ gb600)); clear HO599; clear HB; have HO599 := n0_; have HB := n1_; have BK600 := n2_; have GW600 := n3_; have GE600 := n4_; clear n0_ n1_ n2_ n3_ n4_; clear hb hbox hg; have hcz13_0 : w12.cell? ⟨gb600, 0, none⟩ = some (.int .u32 0) := (iI BK600.out 0).trans rfl; have hcz13_1 : w12.cell? ⟨gb600, 1, none⟩ = some (.slice none 0 0) := (iI BK600.out 1).trans rfl; have hfz13_0 := iH BK600.out 0; have hfz13_1 := iH BK600.out 1; obtain ⟨Ao14, co14, eo14⟩ := Kd.R_slice HO599.out; subst eo14)); try go_wp2_with (first | (go_at_call 24; (with_reducible refine (stratumlaw12_Of.calls kj2 100 4 _ _ l0 t596 t597 _ ?side1 ?side2 A10.out).mono ?_); (case side1 => repeat (first | exact (Kd.C_below HR0.out HB.out) | (with_reducible refine Kd.C_alloc ?_ _) | (with_reducible refine Kd.C_drewN ?_ _) | (with_reducible refine Kd.C_drew ?_))); (case side2 => exact HC0.out); rintro e w11 ⟨v598, rfl, ho0, hb⟩; have n0_ := iC.mk (Kd.R_lower ho0 (iJ hb_)); have n1_ := iC.mk (iK hb_ hb); clear HB; have HO599 := n0_; have HB := n1_; clear n0_ n1_; (try clear hb); (try clear hb2); (try clear hk); (try clear hi); (try clear ho0)) | ((with_reducible refine jC (N := 5) rfl ?_); refine jA ?hg (N := 5) ?hd (cs := #[.int .u32 0, .slice none 0 0]) (t := 42) ?hr ?_; (case hd => rfl); (case hg => rfl); (case hr => first | (go_simp; done) | (go_simp; rfl)); intro gb600 hg w12 hbox hb; have n0_ := iC.mk (Kd.R_below (by (with_reducible repeat (first | apply Kd.R_alloc | apply Kd.R_drewN | apply Kd.R_drew)); exact HO599.out) hb); have n1_ := iC.mk (iK hb_ hb); have n2_ := iC.mk (hbox); have n3_ := iC.mk ((by rw [hg]; exact (iJ hb_) : w.heap.size ≤ gb600)); have n4_ := iC.mk ((by rw [hg]; exact (iJ hb_) : w.heap.size ≤ gb600)); clear HO599; clear HB; have HO599 := n0_; have HB := n1_; have BK600 := n2_; have GW600 := n3_; have GE600 := n4_; clear n0_ n1_ n2_ n3_ n4_; clear hb hbox hg; have hcz13_0 : w12.cell? ⟨gb600, 0, none⟩ = some (.int .u32 0) := (iI BK600.out 0).trans rfl; have hcz13_1 : w12.cell? ⟨gb600, 1, none⟩ = some (.slice none 0 0) := (iI BK600.out 1).trans rfl; have hfz13_0 := iH BK600.out 0; have hfz13_1 := iH BK600.out 1; obtain ⟨Ao14, co14, eo14⟩ := Kd.R_slice HO599.out; subst eo14)))
        go_loopg [7, 8] kj2 (fun kq v7 v8 w' => ∃ (x7_2 : Int) (x8_2 : Int), v7 = .int .i64 x7_2 ∧ v8 = .int .i64 x8_2 ∧ iC (stratumlaw12_SpansWhole.l0 kq l1 0 x7_2 x8_2 t596 t597 = some r) ∧ iC (kq ≤ kj2) ∧ iC (Kd.R k60 60 w' w.heap.size (fun _ => True) (.slice Ao14 t597.length co14) t597) ∧ iC (w'.heap[gb600]? = some (.cells #[.int .u32 t596, (.slice Ao14 t597.length co14)] 42 (0, 0))) ∧ iC (Below w.heap.size w w'))
        case atStart => exact ⟨(0), (0), (by first | rfl | (simp; done) | (simp [*]; done)), (by first | rfl | (simp; done) | (simp [*]; done)), H', ⟨Nat.le_refl _⟩, ⟨by (with_reducible repeat (first | apply Kd.R_alloc | apply Kd.R_drewN | apply Kd.R_drew)); exact Kd.R_mono (Kd.R_far (p := ⟨gb600, 1, none⟩) (Kd.R_far (p := ⟨gb600, 0, none⟩) (Kd.R_types HO599.out BK600.out (by decide)) (fun _ hk => hk.2) (.int .u32 t596)) (fun _ hk => hk.2) (.slice Ao14 t597.length co14)) (fun _ hk => trivial)⟩, ⟨by (with_reducible repeat (first | refine iM ?_ _ | refine iO ?_ | refine iL ?_ _)); refine jD (cs := #[.int .u32 t596, .slice none 0 0]) ?_ 1 _ rfl; (with_reducible repeat (first | refine iM ?_ _ | refine iO ?_ | refine iL ?_ _)); refine jD (cs := #[.int .u32 0, .slice none 0 0]) ?_ 0 _ rfl; (with_reducible repeat (first | refine iM ?_ _ | refine iO ?_ | refine iL ?_ _)); exact BK600.out⟩, ⟨by repeat (first | (with_reducible first | exact HB.out | apply iF | apply iD | apply iG | refine iE ?_ GE600.out) | exact HB.out)⟩⟩
        case round =>
          clear H'
          try clear c1
          try clear p2
          try clear c4
          try clear c4b0
          try clear c4b1
          try clear c7
          try clear c12
          try clear hcz13_0
          try clear hcz13_1
          try clear hfz13_0
          try clear hfz13_1
          try clear p2
          obtain ⟨x7_2, x8_2, rfl, rfl, HA, HK2, HO_601001, BK600, HB⟩ := hrel
          cases gk with
          | zero => exact absurd HA.out (by simp [stratumlaw12_SpansWhole.l0])
          | succ k2 =>
            have H := HA.out
            clear HA
            simp only [stratumlaw12_SpansWhole.l0] at H
            by_cases c15 : x8_2 < (l1.length : Int)
            · rw [if_pos c15] at H
              have c15b0 : decide (x8_2 < (l1.length : Int)) = true := decide_eq_true c15
              clear c15
              by_cases c16 : 0 ≤ x8_2
              · rw [if_pos c16] at H
                have c16b0 : decide (0 ≤ x8_2) = true := decide_eq_true c16
                clear c16
                by_cases c17 : (((iV l1 x8_2).f0).length : Int) > 0
                · rw [if_pos c17] at H
                  have c17b0 : decide (0 < (((iV l1 x8_2).f0).length : Int)) = true := decide_eq_true c17
                  have c17b1 : decide (0 < ((iV l1 x8_2).f0).length) = true := decide_eq_true (by omega)
                  clear c17
                  by_cases c18 : 0 < (((iV l1 x8_2).f0).length : Int)
                  · rw [if_pos c18] at H
                    have c18b0 : decide (0 < (((iV l1 x8_2).f0).length : Int)) = true := decide_eq_true c18
                    have c18b1 : decide (0 < ((iV l1 x8_2).f0).length) = true := decide_eq_true (by omega)
                    clear c18
                    by_cases c19 : (rd ((iV l1 x8_2).f0) 0) ≥ 0
                    · rw [if_pos c19] at H
                      have c19b0 : decide (0 ≤ (rd ((iV l1 x8_2).f0) 0)) = true := decide_eq_true c19
                      clear c19
                      have H' := iC.mk H
                      clear H
                      have p601 : 0 ≤ (x8_2 : Int) := of_decide_eq_true asm_
                      have q601 : x8_2 < (l1.length : Int) := of_decide_eq_true asm_
                      obtain ⟨ad601, A601_0, c601_0, e601, hx601_0, hx601_1, hl601_0, hi601_0⟩ := kR HR1.out x8_2 p601 q601
                      cases e601
                      replace hx601_0 := (HB.out.cell (World.block_lt_of_cell? w _ hx601_0)).trans hx601_0
                      replace hx601_1 := (HB.out.cell (World.block_lt_of_cell? w _ hx601_1)).trans hx601_1
                      have HR601_0 := iC.mk hi601_0
                      have HC601_0 := iC.mk hl601_0
                      clear hi601_0 hl601_0
                      replace p601 := eq_true p601
                      replace q601 := eq_true q601
                      have p602 : 0 ≤ (x8_2 : Int) := of_decide_eq_true asm_
                      have q602 : x8_2 < (l1.length : Int) := of_decide_eq_true asm_
                      obtain ⟨ad602, A602_0, c602_0, e602, hx602_0, hx602_1, hl602_0, hi602_0⟩ := kR HR1.out x8_2 p602 q602
                      obtain rfl : ad601 = ad602 := (by injection e602)
                      replace hx602_0 := (HB.out.cell (World.block_lt_of_cell? w _ hx602_0)).trans hx602_0
                      replace hx602_1 := (HB.out.cell (World.block_lt_of_cell? w _ hx602_1)).trans hx602_1
                      have HR602_0 := iC.mk hi602_0
                      have HC602_0 := iC.mk hl602_0
                      clear hi602_0 hl602_0
                      replace p602 := eq_true p602
                      replace q602 := eq_true q602
                      have ea_ := Option.some.inj (hx601_0.symm.trans hx602_0)
                      injection ea_ with ea_ en_ ec_
                      subst ea_
                      subst ec_
                      clear en_
                      have p603 : 0 ≤ (0 : Int) := (by omega)
                      have q603 : 0 < (((iV l1 x8_2).f0).length : Int) := of_decide_eq_true asm_
                      obtain ⟨ad603, e603, hx603_0⟩ := Kd.at_int HR602_0.out 0 p603 q603
                      cases e603
                      have qi603 : (0 < ((iV l1 x8_2).f0).length) = True := eq_true (by omega)
                      (try rw [show ((0 : Int)).toNat = 0 from rfl] at hx603_0)
                      (try rw [Addr.add_zero'] at hx603_0)
                      replace hx603_0 := (HB.out.cell (World.block_lt_of_cell? w _ hx603_0)).trans hx603_0
                      replace p603 := eq_true p603
                      replace q603 := eq_true q603
                      go_wp2
                      repeat (go_quiet (fail); try go_wp2)
                      go_roundg k2
                      case measure => have := HJ2.out; have := HK2.out; omega
                      case rel => exact ⟨(wrap64 (x7_2 + 1)), (wrap64 (x8_2 + 1)), (by first | rfl | (simp; done) | (simp [*]; done)), (by first | rfl | (simp; done) | (simp [*]; done)), H', ⟨by have := HJ2.out; have := HK2.out; omega⟩, ⟨by (with_reducible repeat (first | apply Kd.R_alloc | apply Kd.R_drewN | apply Kd.R_drew)); exact HO_601001.out⟩, ⟨bk_ BK600.out⟩, ⟨by repeat (first | (with_reducible first | exact HB.out | apply iF | apply iD | apply iG | refine iE ?_ GE600.out) | exact HB.out)⟩⟩
                    · rw [if_neg c19] at H
                      have c19b0 : decide (0 ≤ (rd ((iV l1 x8_2).f0) 0)) = false := decide_eq_false c19
                      clear c19
                      have H' := iC.mk H
                      clear H
                      have p601 : 0 ≤ (x8_2 : Int) := of_decide_eq_true asm_
                      have q601 : x8_2 < (l1.length : Int) := of_decide_eq_true asm_
                      obtain ⟨ad601, A601_0, c601_0, e601, hx601_0, hx601_1, hl601_0, hi601_0⟩ := kR HR1.out x8_2 p601 q601
                      cases e601
                      replace hx601_0 := (HB.out.cell (World.block_lt_of_cell? w _ hx601_0)).trans hx601_0
                      replace hx601_1 := (HB.out.cell (World.block_lt_of_cell? w _ hx601_1)).trans hx601_1
                      have HR601_0 := iC.mk hi601_0
                      have HC601_0 := iC.mk hl601_0
                      clear hi601_0 hl601_0
                      replace p601 := eq_true p601
                      replace q601 := eq_true q601
                      have p602 : 0 ≤ (x8_2 : Int) := of_decide_eq_true asm_
                      have q602 : x8_2 < (l1.length : Int) := of_decide_eq_true asm_
                      obtain ⟨ad602, A602_0, c602_0, e602, hx602_0, hx602_1, hl602_0, hi602_0⟩ := kR HR1.out x8_2 p602 q602
                      obtain rfl : ad601 = ad602 := (by injection e602)
                      replace hx602_0 := (HB.out.cell (World.block_lt_of_cell? w _ hx602_0)).trans hx602_0
                      replace hx602_1 := (HB.out.cell (World.block_lt_of_cell? w _ hx602_1)).trans hx602_1
                      have HR602_0 := iC.mk hi602_0
                      have HC602_0 := iC.mk hl602_0
                      clear hi602_0 hl602_0
                      replace p602 := eq_true p602
                      replace q602 := eq_true q602
                      have ea_ := Option.some.inj (hx601_0.symm.trans hx602_0)
                      injection ea_ with ea_ en_ ec_
                      subst ea_
                      subst ec_
                      clear en_
                      have p603 : 0 ≤ (0 : Int) := (by omega)
                      have q603 : 0 < (((iV l1 x8_2).f0).length : Int) := of_decide_eq_true asm_
                      obtain ⟨ad603, e603, hx603_0⟩ := Kd.at_int HR602_0.out 0 p603 q603
                      cases e603
                      have qi603 : (0 < ((iV l1 x8_2).f0).length) = True := eq_true (by omega)
                      (try rw [show ((0 : Int)).toNat = 0 from rfl] at hx603_0)
                      (try rw [Addr.add_zero'] at hx603_0)
                      replace hx603_0 := (HB.out.cell (World.block_lt_of_cell? w _ hx603_0)).trans hx603_0
                      replace p603 := eq_true p603
                      replace q603 := eq_true q603
                      go_wp2
                      repeat (go_quiet (fail); try go_wp2)
                      go_roundg k2
                      case measure => have := HJ2.out; have := HK2.out; omega
                      case rel => exact ⟨(x7_2), (wrap64 (x8_2 + 1)), (by first | rfl | (simp; done) | (simp [*]; done)), (by first | rfl | (simp; done) | (simp [*]; done)), H', ⟨by have := HJ2.out; have := HK2.out; omega⟩, ⟨by (with_reducible repeat (first | apply Kd.R_alloc | apply Kd.R_drewN | apply Kd.R_drew)); exact HO_601001.out⟩, ⟨bk_ BK600.out⟩, ⟨by repeat (first | (with_reducible first | exact HB.out | apply iF | apply iD | apply iG | refine iE ?_ GE600.out) | exact HB.out)⟩⟩
                  · rw [if_neg c18] at H
                    exact absurd H (by simp)
                · rw [if_neg c17] at H
                  have c17b0 : decide (0 < (((iV l1 x8_2).f0).length : Int)) = false := decide_eq_false c17
                  have c17b1 : decide (0 < ((iV l1 x8_2).f0).length) = false := decide_eq_false (by omega)
                  clear c17
                  have H' := iC.mk H
                  clear H
                  have p601 : 0 ≤ (x8_2 : Int) := of_decide_eq_true asm_
                  have q601 : x8_2 < (l1.length : Int) := of_decide_eq_true asm_
                  obtain ⟨ad601, A601_0, c601_0, e601, hx601_0, hx601_1, hl601_0, hi601_0⟩ := kR HR1.out x8_2 p601 q601
                  cases e601
                  replace hx601_0 := (HB.out.cell (World.block_lt_of_cell? w _ hx601_0)).trans hx601_0
                  replace hx601_1 := (HB.out.cell (World.block_lt_of_cell? w _ hx601_1)).trans hx601_1
                  have HR601_0 := iC.mk hi601_0
                  have HC601_0 := iC.mk hl601_0
                  clear hi601_0 hl601_0
                  replace p601 := eq_true p601
                  replace q601 := eq_true q601
                  go_wp2
                  repeat (go_quiet (fail); try go_wp2)
                  go_roundg k2
                  case measure => have := HJ2.out; have := HK2.out; omega
                  case rel => exact ⟨(x7_2), (wrap64 (x8_2 + 1)), (by first | rfl | (simp; done) | (simp [*]; done)), (by first | rfl | (simp; done) | (simp [*]; done)), H', ⟨by have := HJ2.out; have := HK2.out; omega⟩, ⟨by (with_reducible repeat (first | apply Kd.R_alloc | apply Kd.R_drewN | apply Kd.R_drew)); exact HO_601001.out⟩, ⟨bk_ BK600.out⟩, ⟨by repeat (first | (with_reducible first | exact HB.out | apply iF | apply iD | apply iG | refine iE ?_ GE600.out) | exact HB.out)⟩⟩
              · rw [if_neg c16] at H
                exact absurd H (by simp)
            · rw [if_neg c15] at H
              have c15b0 : decide (x8_2 < (l1.length : Int)) = false := decide_eq_false c15
              clear c15
              have H' := iC.mk H
              clear H
              go_wp2
              repeat (go_quiet (fail); try go_wp2)
              go_loopg [6, 9] k2 (fun kq v6 v9 w' => ∃ (x6_3 : Int) (x9_3 : Int), v6 = .int .i64 x6_3 ∧ v9 = .int .i64 x9_3 ∧ iC (stratumlaw12_SpansWhole.l1 kq l1 x6_3 x7_2 x9_3 t596 t597 = some r) ∧ iC (kq ≤ k2) ∧ iC (Kd.R k60 60 w' w.heap.size (fun _ => True) (.slice Ao14 t597.length co14) t597) ∧ iC (w'.heap[gb600]? = some (.cells #[.int .u32 t596, (.slice Ao14 t597.length co14)] 42 (0, 0))) ∧ iC (Below w.heap.size w w'))
              case atStart => exact ⟨(0), (0), (by first | rfl | (simp; done) | (simp [*]; done)), (by first | rfl | (simp; done) | (simp [*]; done)), H', ⟨Nat.le_refl _⟩, ⟨by (with_reducible repeat (first | apply Kd.R_alloc | apply Kd.R_drewN | apply Kd.R_drew)); exact HO_601001.out⟩, ⟨bk_ BK600.out⟩, ⟨by repeat (first | (with_reducible first | exact HB.out | apply iF | apply iD | apply iG | refine iE ?_ GE600.out) | exact HB.out)⟩⟩
              case round =>
                clear H'
                try clear c1
                try clear p2
                try clear c4
                try clear c4b0
                try clear c4b1
                try clear c6
                try clear p6
                try clear q6
                try clear hx6
                try clear qi6
                try clear c7
                try clear c12
                try clear c15
                try clear c15b0
                try clear c16
                try clear c16b0
                try clear c17
                try clear c17b0
                try clear c17b1
                try clear c18
                try clear c18b0
                try clear c18b1
                try clear c19
                try clear c19b0
                try clear hcz13_0
                try clear hcz13_1
                try clear hfz13_0
                try clear hfz13_1
                try clear hx601_0
                try clear hx601_1
                try clear hx602_0
                try clear hx602_1
                try clear hx603_0
                try clear p2
                try clear p601
                try clear p602
                try clear p603
                try clear q601
                try clear q602
                try clear q603
                obtain ⟨x6_3, x9_3, rfl, rfl, HA, HK3, HO_601001, BK600, HB⟩ := hrel
                cases gk with
                | zero => exact absurd HA.out (by simp [stratumlaw12_SpansWhole.l1])
                | succ k3 =>
                  have H := HA.out
                  clear HA
                  simp only [stratumlaw12_SpansWhole.l1] at H
                  by_cases c20 : x9_3 < 4
                  · rw [if_pos c20] at H
                    have c20b0 : decide (x9_3 < 4) = true := decide_eq_true c20
                    clear c20
                    replace H := Option.bind_eq_some_iff.mp H
                    obtain ⟨t604, A210, H⟩ := H
                    replace H : (stratumlaw12_SpansWhole.l2 k3 l1 (wrap64 (x6_3 + (t604.length : Int))) x7_2 x9_3 t604 0 t596 t597) = some r := H
                    have A21 := iC.mk A210
                    clear A210
                    have H' := iC.mk H
                    clear H
                    have hcz22_0 : wr.cell? ⟨gb600, 0, none⟩ = some (.int .u32 t596) := (iI BK600.out 0).trans rfl
                    have hcz22_1 : wr.cell? ⟨gb600, 1, none⟩ = some (.slice Ao14 t597.length co14) := (iI BK600.out 1).trans rfl
                    have hfz22_0 := iH BK600.out 0
                    have hfz22_1 := iH BK600.out 1
                    go_wp2_with (first | (go_at_call 39; (with_reducible refine (spans_Parts.calls k3 t596 _ _ t597 _ _ l1 x9_3 t604 _ ?side1 ?side2 ?side3 ?side4 A21.out).mono ?_); (case side1 => repeat (first | exact (Kd.R_reads' HO_601001.out).2.2 | (with_reducible refine Kd.C_alloc ?_ _) | (with_reducible refine Kd.C_drewN ?_ _) | (with_reducible refine Kd.C_drew ?_))); (case side2 => exact (Kd.R_reads' HO_601001.out).2.1); (case side3 => repeat (first | exact (Kd.C_below HR1.out HB.out) | (with_reducible refine Kd.C_alloc ?_ _) | (with_reducible refine Kd.C_drewN ?_ _) | (with_reducible refine Kd.C_drew ?_))); (case side4 => exact HC1.out); rintro e w23 ⟨v605, rfl, ho0, hb⟩; have n0_ := iC.mk (Kd.R_below (by (with_reducible repeat (first | apply Kd.R_alloc | apply Kd.R_drewN | apply Kd.R_drew)); exact HO_601001.out) hb); have n1_ := iC.mk (Kd.R_lower ho0 (iJ (by repeat (first | (with_reducible first | exact HB.out | apply iF | apply iD | apply iG | refine iE ?_ GE600.out) | exact HB.out)))); have n2_ := iC.mk (iP (g := gb600) (o := .cells #[.int .u32 t596, .slice Ao14 t597.length co14] 42 (0, 0)) (bk_ BK600.out) hb); have n3_ := iC.mk (iK (by repeat (first | (with_reducible first | exact HB.out | apply iF | apply iD | apply iG | refine iE ?_ GE600.out) | exact HB.out)) hb); clear HO_601001; clear BK600; clear HB; have HO_601001 := n0_; have HO606 := n1_; have BK600 := n2_; have HB := n3_; clear n0_ n1_ n2_ n3_; (try clear hb); (try clear hb2); (try clear hk); (try clear hi); (try clear ho0); obtain ⟨Ao24, co24, eo24⟩ := Kd.R_slice HO606.out; subst eo24))
                    repeat (go_quiet (first | (go_at_call 39; (with_reducible refine (spans_Parts.calls k3 t596 _ _ t597 _ _ l1 x9_3 t604 _ ?side1 ?side2 ?side3 ?side4 A21.out).mono ?_); (case side1 => repeat (first | exact (Kd.R_reads' HO_601001.out).2.2 | (with_reducible refine Kd.C_alloc ?_ _) | (with_reducible refine Kd.C_drewN ?_ _) | (with_reducible refine Kd.C_drew ?_))); (case side2 => exact (Kd.R_reads' HO_601001.out).2.1); (case side3 => repeat (first | exact (Kd.C_below HR1.out HB.out) | (with_reducible refine Kd.C_alloc ?_ _) | (with_reducible refine Kd.C_drewN ?_ _) | (with_reducible refine Kd.C_drew ?_))); (case side4 => exact HC1.out); rintro e w23 ⟨v605, rfl, ho0, hb⟩; have n0_ := iC.mk (Kd.R_below (by (with_reducible repeat (first | apply Kd.R_alloc | apply Kd.R_drewN | apply Kd.R_drew)); exact HO_601001.out) hb); have n1_ := iC.mk (Kd.R_lower ho0 (iJ (by repeat (first | (with_reducible first | exact HB.out | apply iF | apply iD | apply iG | refine iE ?_ GE600.out) | exact HB.out)))); have n2_ := iC.mk (iP (g := gb600) (o := .cells #[.int .u32 t596, .slice Ao14 t597.length co14] 42 (0, 0)) (bk_ BK600.out) hb); have n3_ := iC.mk (iK (by repeat (first | (with_reducible first | exact HB.out | apply iF | apply iD | apply iG | refine iE ?_ GE600.out) | exact HB.out)) hb); clear HO_601001; clear BK600; clear HB; have HO_601001 := n0_; have HO606 := n1_; have BK600 := n2_; have HB := n3_; clear n0_ n1_ n2_ n3_; (try clear hb); (try clear hb2); (try clear hk); (try clear hi); (try clear ho0); obtain ⟨Ao24, co24, eo24⟩ := Kd.R_slice HO606.out; subst eo24)); try go_wp2_with (first | (go_at_call 39; (with_reducible refine (spans_Parts.calls k3 t596 _ _ t597 _ _ l1 x9_3 t604 _ ?side1 ?side2 ?side3 ?side4 A21.out).mono ?_); (case side1 => repeat (first | exact (Kd.R_reads' HO_601001.out).2.2 | (with_reducible refine Kd.C_alloc ?_ _) | (with_reducible refine Kd.C_drewN ?_ _) | (with_reducible refine Kd.C_drew ?_))); (case side2 => exact (Kd.R_reads' HO_601001.out).2.1); (case side3 => repeat (first | exact (Kd.C_below HR1.out HB.out) | (with_reducible refine Kd.C_alloc ?_ _) | (with_reducible refine Kd.C_drewN ?_ _) | (with_reducible refine Kd.C_drew ?_))); (case side4 => exact HC1.out); rintro e w23 ⟨v605, rfl, ho0, hb⟩; have n0_ := iC.mk (Kd.R_below (by (with_reducible repeat (first | apply Kd.R_alloc | apply Kd.R_drewN | apply Kd.R_drew)); exact HO_601001.out) hb); have n1_ := iC.mk (Kd.R_lower ho0 (iJ (by repeat (first | (with_reducible first | exact HB.out | apply iF | apply iD | apply iG | refine iE ?_ GE600.out) | exact HB.out)))); have n2_ := iC.mk (iP (g := gb600) (o := .cells #[.int .u32 t596, .slice Ao14 t597.length co14] 42 (0, 0)) (bk_ BK600.out) hb); have n3_ := iC.mk (iK (by repeat (first | (with_reducible first | exact HB.out | apply iF | apply iD | apply iG | refine iE ?_ GE600.out) | exact HB.out)) hb); clear HO_601001; clear BK600; clear HB; have HO_601001 := n0_; have HO606 := n1_; have BK600 := n2_; have HB := n3_; clear n0_ n1_ n2_ n3_; (try clear hb); (try clear hb2); (try clear hk); (try clear hi); (try clear ho0); obtain ⟨Ao24, co24, eo24⟩ := Kd.R_slice HO606.out; subst eo24)))
                    go_loopg [11] k3 (fun kq v11 w' => ∃ (x11_4 : Int), v11 = .int .i64 x11_4 ∧ iC (stratumlaw12_SpansWhole.l2 kq l1 (wrap64 (x6_3 + (t604.length : Int))) x7_2 x9_3 t604 x11_4 t596 t597 = some r) ∧ iC (kq ≤ k3) ∧ iC (Kd.R k77 77 w' w.heap.size (fun _ => True) (.slice Ao24 t604.length co24) t604) ∧ iC (Kd.R k60 60 w' w.heap.size (fun _ => True) (.slice Ao14 t597.length co14) t597) ∧ iC (w'.heap[gb600]? = some (.cells #[.int .u32 t596, (.slice Ao14 t597.length co14)] 42 (0, 0))) ∧ iC (Below w.heap.size w w'))
                    case atStart => exact ⟨(0), (by first | rfl | (simp; done) | (simp [*]; done)), H', ⟨Nat.le_refl _⟩, ⟨by (with_reducible repeat (first | apply Kd.R_alloc | apply Kd.R_drewN | apply Kd.R_drew)); exact HO606.out⟩, ⟨by (with_reducible repeat (first | apply Kd.R_alloc | apply Kd.R_drewN | apply Kd.R_drew)); exact HO_601001.out⟩, ⟨bk_ BK600.out⟩, ⟨by repeat (first | (with_reducible first | exact HB.out | apply iF | apply iD | apply iG | refine iE ?_ GE600.out) | exact HB.out)⟩⟩
                    case round =>
                      clear H'
                      try clear c1
                      try clear c2
                      try clear p2
                      try clear c4
                      try clear c4b0
                      try clear c4b1
                      try clear c6
                      try clear p6
                      try clear q6
                      try clear hx6
                      try clear qi6
                      try clear c7
                      try clear c12
                      try clear c15
                      try clear c15b0
                      try clear c16
                      try clear c16b0
                      try clear c17
                      try clear c17b0
                      try clear c17b1
                      try clear c18
                      try clear c18b0
                      try clear c18b1
                      try clear c19
                      try clear c19b0
                      try clear c20
                      try clear c20b0
                      try clear hcz13_0
                      try clear hcz13_1
                      try clear hcz22_0
                      try clear hcz22_1
                      try clear hfz13_0
                      try clear hfz13_1
                      try clear hfz22_0
                      try clear hfz22_1
                      try clear hx601_0
                      try clear hx601_1
                      try clear hx602_0
                      try clear hx602_1
                      try clear hx603_0
                      try clear p2
                      try clear p6
                      try clear p601
                      try clear p602
                      try clear p603
                      try clear q6
                      try clear q601
                      try clear q602
                      try clear q603
                      obtain ⟨x11_4, rfl, HA, HK4, HO_10, HO_601001, BK600, HB⟩ := hrel
                      cases gk with
                      | zero => exact absurd HA.out (by simp [stratumlaw12_SpansWhole.l2])
                      | succ k4 =>
                        have H := HA.out
                        clear HA
                        simp only [stratumlaw12_SpansWhole.l2] at H
                        by_cases c25 : x11_4 < (t604.length : Int)
                        · rw [if_pos c25] at H
                          have c25b0 : decide (x11_4 < (t604.length : Int)) = true := decide_eq_true c25
                          clear c25
                          by_cases c26 : 0 ≤ x11_4
                          · rw [if_pos c26] at H
                            have c26b0 : decide (0 ≤ x11_4) = true := decide_eq_true c26
                            clear c26
                            by_cases c27 : 0 < (((iV t604 x11_4).f0).length : Int)
                            · rw [if_pos c27] at H
                              have c27b0 : decide (0 < (((iV t604 x11_4).f0).length : Int)) = true := decide_eq_true c27
                              have c27b1 : decide (0 < ((iV t604 x11_4).f0).length) = true := decide_eq_true (by omega)
                              clear c27
                              replace H := Option.bind_eq_some_iff.mp H
                              obtain ⟨t609, A280, H⟩ := H
                              replace H : (if t609 = x9_3 then (stratumlaw12_SpansWhole.l2 k4 l1 (wrap64 (x6_3 + (t604.length : Int))) x7_2 x9_3 t604 (wrap64 (x11_4 + 1)) t596 t597) else (some false)) = some r := H
                              have A28 := iC.mk A280
                              clear A280
                              by_cases c29 : t609 = x9_3
                              · rw [if_pos c29] at H
                                have c29b0 : (t609 == x9_3) = true := beq_iff_eq.mpr c29
                                have c29b1 : (t609 != x9_3) = false := bne_eq_false_iff_eq.mpr c29
                                clear c29
                                have H' := iC.mk H
                                clear H
                                have hcz30_0 : wr.cell? ⟨gb600, 0, none⟩ = some (.int .u32 t596) := (iI BK600.out 0).trans rfl
                                have hcz30_1 : wr.cell? ⟨gb600, 1, none⟩ = some (.slice Ao14 t597.length co14) := (iI BK600.out 1).trans rfl
                                have hfz30_0 := iH BK600.out 0
                                have hfz30_1 := iH BK600.out 1
                                have p607 : 0 ≤ (x11_4 : Int) := of_decide_eq_true asm_
                                have q607 : x11_4 < (t604.length : Int) := of_decide_eq_true asm_
                                obtain ⟨ad607, A607_0, c607_0, e607, hx607_0, hx607_1, hl607_0, hi607_0⟩ := kR (Kd.R_reads' HO_10.out).2.2 x11_4 p607 q607
                                cases e607
                                obtain ⟨ce607, hce607, hMe607, hcc607⟩ := Kd.R_get HO_10.out z77 x11_4 p607 (by first | exact q607 | exact of_decide_eq_true asm_ | (have e_ := (Kd.R_reads' HO_10.out).1; omega))
                                obtain ⟨ve607_0, rfl, ge607_0⟩ := pK hMe607
                                have hv607_0 := hcc607 0 _ rfl
                                rw [Nat.add_zero] at hv607_0
                                replace hv607_0 := Option.some.inj (hv607_0.symm.trans hx607_0)
                                rw [hv607_0] at ge607_0
                                have HL607_0 := iC.mk (show Kd.R (Kd.int .i64) 3 _ _ _ _ ((iV t604 x11_4).f0) from ge607_0)
                                clear hv607_0 ge607_0
                                clear hcc607 hce607
                                have HR607_0 := iC.mk hi607_0
                                have HC607_0 := iC.mk hl607_0
                                clear hi607_0 hl607_0
                                replace p607 := eq_true p607
                                replace q607 := eq_true q607
                                have p608 : 0 ≤ (0 : Int) := (by omega)
                                have q608 : 0 < (((iV t604 x11_4).f0).length : Int) := of_decide_eq_true asm_
                                obtain ⟨ad608, e608, hx608_0⟩ := Kd.at_int (by repeat (first | (with_reducible exact HR607_0.out) | (with_reducible refine Kd.C_alloc ?_ _) | (with_reducible refine Kd.C_drewN ?_ _) | (with_reducible refine Kd.C_drew ?_) | exact HR607_0.out)) 0 p608 q608
                                cases e608
                                have qi608 : (0 < ((iV t604 x11_4).f0).length) = True := eq_true (by omega)
                                (try rw [show ((0 : Int)).toNat = 0 from rfl] at hx608_0)
                                (try rw [Addr.add_zero'] at hx608_0)
                                replace p608 := eq_true p608
                                replace q608 := eq_true q608
                                go_wp2
                                refine lT (n := 11) (S := fun w' => w'.cell? ⟨gb600, 0, none⟩ = some (.int .u32 t596) ∧ w'.cell? ⟨gb600, 1, none⟩ = some (.slice Ao14 t597.length co14) ∧ w'.cell? ((ad607).add ((x11_4).toNat * 2)) = some (.slice (some ad608) ((iV t604 x11_4).f0).length c607_0) ∧ w'.cell? ad608 = some (.int .i64 (rd ((iV t604 x11_4).f0) 0))) (ds := []) #[false, false, false, false, false, false, false, false, false, false, false] (by kernel_rfl) rfl rfl ⟨(iI BK600.out 0).trans rfl, (iI BK600.out 1).trans rfl, hx607_0, hx608_0⟩ (fun hHeld => ?_)
                                refine kK (T := (true, [([], []), ([], []), ([], []), ([1, 2], [1, 2]), ([3], [3]), ([4], [4]), ([5], [5]), ([6], [6]), ([0, 7], [0, 7]), ([], []), ([8, 9], [8, 9])])) (B := [0, 0, 0, 6, 14, 30, 62, 126, 255, 0, 1023]) (by kernel_rfl) (by kernel_rfl) (fun HT_ HW_ => ?_)
                                refine jI (i := 1) (N := some 66) (v := ?_) (a' := ?_) #[false, true, false, false, false, false, false, false, false, false, false] rfl rfl (jB HT_.out (by kernel_rfl)) (fun _ _ _ h => h) (Or.inl ⟨by rfl, ?_⟩) ?_ ?_
                                rotate_left
                                · intro w'
                                  go_simp
                                  with_reducible rfl
                                rotate_left
                                · simp only [Act.put, List.setIfInBounds_toArray, List.set_cons_zero, List.set_cons_succ, iY, iZ]
                                  rfl
                                refine jI (i := 2) (N := some 67) (v := ?_) (a' := ?_) #[false, true, true, false, false, false, false, false, false, false, false] rfl rfl (jB HT_.out (by kernel_rfl)) (fun _ _ _ h => h) (Or.inl ⟨by rfl, ?_⟩) ?_ ?_
                                rotate_left
                                · intro w'
                                  go_simp
                                  with_reducible rfl
                                rotate_left
                                · simp only [Act.put, List.setIfInBounds_toArray, List.set_cons_zero, List.set_cons_succ, iY, iZ]
                                  rfl
                                refine jI (i := 3) (N := some 68) (v := ?_) (a' := ?_) #[false, true, true, true, false, false, false, false, false, false, false] rfl rfl (jB HT_.out (by kernel_rfl)) (fun _ _ _ h => h) (Or.inl ⟨by rfl, ?_⟩) ?_ ?_
                                rotate_left
                                · intro w'
                                  go_simp
                                  with_reducible rfl
                                rotate_left
                                · simp only [Act.put, List.setIfInBounds_toArray, List.set_cons_zero, List.set_cons_succ, iY, iZ]
                                  rfl
                                refine jI (i := 4) (N := some 69) (v := ?_) (a' := ?_) #[false, true, true, true, true, false, false, false, false, false, false] rfl rfl (jB HT_.out (by kernel_rfl)) (fun _ _ _ h => h) (Or.inl ⟨by rfl, ?_⟩) ?_ ?_
                                rotate_left
                                · intro w'
                                  go_simp
                                  with_reducible rfl
                                rotate_left
                                · simp only [Act.put, List.setIfInBounds_toArray, List.set_cons_zero, List.set_cons_succ, iY, iZ]
                                  rfl
                                refine jI (i := 9) (N := some 74) (v := ?_) (a' := ?_) #[false, true, true, true, true, false, false, false, false, true, false] rfl rfl (jB HT_.out (by kernel_rfl)) (fun _ _ _ h => h) (Or.inl ⟨by rfl, ?_⟩) ?_ ?_
                                rotate_left
                                · intro w'
                                  go_simp
                                  with_reducible rfl
                                rotate_left
                                · simp only [Act.put, List.setIfInBounds_toArray, List.set_cons_zero, List.set_cons_succ, iY, iZ]
                                  rfl
                                refine take_ (i := 0) (N := some 65) (v := ?_) (a' := ?_) #[true, true, true, true, true, false, false, false, false, true, false] rfl rfl (jM HT_.out HW_.out (by kernel_rfl)) (fun _ _ _ h => h) (Or.inl ⟨by rfl, ?_⟩) hHeld ?_ ?_
                                rotate_left
                                · rintro w' ⟨s0, s1, s2, s3⟩
                                  go_simp
                                  with_reducible rfl
                                rotate_left
                                · simp only [Act.put, List.setIfInBounds_toArray, List.set_cons_zero, List.set_cons_succ, iY, iZ]
                                  rfl
                                refine take_ (i := 5) (N := some 70) (v := ?_) (a' := ?_) #[true, true, true, true, true, true, false, false, false, true, false] rfl rfl (jM HT_.out HW_.out (by kernel_rfl)) (fun _ _ _ h => h) (Or.inl ⟨by rfl, ?_⟩) hHeld ?_ ?_
                                rotate_left
                                · rintro w' ⟨s0, s1, s2, s3⟩
                                  go_simp
                                  with_reducible rfl
                                rotate_left
                                · simp only [Act.put, List.setIfInBounds_toArray, List.set_cons_zero, List.set_cons_succ, iY, iZ]
                                  rfl
                                refine jI (i := 6) (N := some 71) (v := ?_) (a' := ?_) #[true, true, true, true, true, true, true, false, false, true, false] rfl rfl (jB HT_.out (by kernel_rfl)) (fun _ _ _ h => h) (Or.inl ⟨by rfl, ?_⟩) ?_ ?_
                                rotate_left
                                · intro w'
                                  go_simp
                                  with_reducible rfl
                                rotate_left
                                · simp only [Act.put, List.setIfInBounds_toArray, List.set_cons_zero, List.set_cons_succ, iY, iZ]
                                  rfl
                                refine take_ (i := 7) (N := some 72) (v := ?_) (a' := ?_) #[true, true, true, true, true, true, true, true, false, true, false] rfl rfl (jM HT_.out HW_.out (by kernel_rfl)) (fun _ _ _ h => h) (Or.inl ⟨by rfl, ?_⟩) hHeld ?_ ?_
                                rotate_left
                                · rintro w' ⟨s0, s1, s2, s3⟩
                                  go_simp
                                  with_reducible rfl
                                rotate_left
                                · simp only [Act.put, List.setIfInBounds_toArray, List.set_cons_zero, List.set_cons_succ, iY, iZ]
                                  rfl
                                refine one_ (i := 8) (N := some 73) #[true, true, true, true, true, true, true, true, true, true, false] rfl rfl (kQ HT_.out (by kernel_rfl)) (by decide) (fun K hK => ?_)
                                refine nY Try.func35 (by kernel_rfl) rfl #[.agg #[.int .u32 t596, .slice Ao14 t597.length co14], .int .i64 (rd ((iV t604 x11_4).f0) 0)] (by rfl) rfl rfl (by simp only [List.map_toArray, List.map_cons, List.map_nil]; rfl) ?_
                                with_reducible refine (spans_Find.calls t596 _ _ t597 (rd ((iV t604 x11_4).f0) 0) t609 _ ?side1 ?side2 A28.out).mono ?_
                                (case side1 => repeat (first | exact (Kd.R_reads' HO_601001.out).2.2 | (with_reducible refine Kd.C_alloc ?_ _) | (with_reducible refine Kd.C_drewN ?_ _) | (with_reducible refine Kd.C_drew ?_)))
                                (case side2 => exact (Kd.R_reads' HO_601001.out).2.1)
                                rintro e w31 ⟨rfl, hb⟩
                                refine ⟨_, rfl, ?_⟩
                                have f1_ := (hb.cell (World.block_lt_of_cell? _ _ hx607_0)).trans hx607_0
                                have f2_ := (hb.cell (World.block_lt_of_cell? _ _ hx608_0)).trans hx608_0
                                have n0_ := iC.mk (Kd.R_below (by (with_reducible repeat (first | apply Kd.R_alloc | apply Kd.R_drewN | apply Kd.R_drew)); exact HO_10.out) hb)
                                have n1_ := iC.mk (Kd.R_below (by (with_reducible repeat (first | apply Kd.R_alloc | apply Kd.R_drewN | apply Kd.R_drew)); exact HO_601001.out) hb)
                                have n2_ := iC.mk (Kd.R_below (by (with_reducible repeat (first | apply Kd.R_alloc | apply Kd.R_drewN | apply Kd.R_drew)); exact HL607_0.out) hb)
                                have n3_ := iC.mk (iP (g := gb600) (o := .cells #[.int .u32 t596, .slice Ao14 t597.length co14] 42 (0, 0)) (bk_ BK600.out) hb)
                                have n4_ := iC.mk (Kd.C_below (by repeat (first | (with_reducible exact HR607_0.out) | (with_reducible refine Kd.C_alloc ?_ _) | (with_reducible refine Kd.C_drewN ?_ _) | (with_reducible refine Kd.C_drew ?_) | exact HR607_0.out)) hb)
                                have n5_ := iC.mk (iK (by repeat (first | (with_reducible first | exact HB.out | apply iF | apply iD | apply iG | refine iE ?_ GE600.out) | exact HB.out)) hb)
                                try clear HO_10
                                try clear HO_601001
                                try clear HL607_0
                                try clear BK600
                                try clear HR607_0
                                try clear HB
                                have HO_10 := n0_
                                have HO_601001 := n1_
                                have HL607_0 := n2_
                                have BK600 := n3_
                                have HR607_0 := n4_
                                have HB := n5_
                                clear n0_ n1_ n2_ n3_ n4_ n5_
                                (try clear hb)
                                (try clear hb2)
                                (try clear hk)
                                (try clear hi)
                                refine hK.out _ _ ⟨(iI BK600.out 0).trans rfl, (iI BK600.out 1).trans rfl, f1_, f2_⟩ (fun hHeld => ?_)
                                clear hK K
                                refine kT (a' := ?_) ?_ ?_
                                rotate_left
                                · show Act.put _ (some 73) _ = _
                                  simp only [Act.put, List.setIfInBounds_toArray, List.set_cons_zero, List.set_cons_succ, iY, iZ]
                                  rfl
                                refine jI (i := 10) (N := some 75) (v := ?_) (a' := ?_) #[true, true, true, true, true, true, true, true, true, true, true] rfl rfl (jB HT_.out (by kernel_rfl)) (fun _ _ _ h => h) (Or.inl ⟨by rfl, ?_⟩) ?_ ?_
                                rotate_left
                                · intro w'
                                  go_simp
                                  with_reducible rfl
                                rotate_left
                                · simp only [Act.put, List.setIfInBounds_toArray, List.set_cons_zero, List.set_cons_succ, iY, iZ]
                                  rfl
                                refine nU (kY HT_.out (by kernel_rfl)) ?_
                                go_wp2
                                go_roundg k4
                                case measure => have := HJ2.out; have := HK2.out; have := HK3.out; have := HK4.out; omega
                                case rel => exact ⟨(wrap64 (x11_4 + 1)), (by first | rfl | (simp; done) | (simp [*]; done)), H', ⟨by have := HJ2.out; have := HK2.out; have := HK3.out; have := HK4.out; omega⟩, ⟨by (with_reducible repeat (first | apply Kd.R_alloc | apply Kd.R_drewN | apply Kd.R_drew)); exact HO_10.out⟩, ⟨by (with_reducible repeat (first | apply Kd.R_alloc | apply Kd.R_drewN | apply Kd.R_drew)); exact HO_601001.out⟩, ⟨bk_ BK600.out⟩, ⟨by repeat (first | (with_reducible first | exact HB.out | apply iF | apply iD | apply iG | refine iE ?_ GE600.out) | exact HB.out)⟩⟩
                              · rw [if_neg c29] at H
                                have c29b0 : (t609 == x9_3) = false := beq_eq_false_iff_ne.mpr c29
                                have c29b1 : (t609 != x9_3) = true := bne_iff_ne.mpr c29
                                obtain rfl := Option.some.inj H
                                have hcz32_0 : wr.cell? ⟨gb600, 0, none⟩ = some (.int .u32 t596) := (iI BK600.out 0).trans rfl
                                have hcz32_1 : wr.cell? ⟨gb600, 1, none⟩ = some (.slice Ao14 t597.length co14) := (iI BK600.out 1).trans rfl
                                have hfz32_0 := iH BK600.out 0
                                have hfz32_1 := iH BK600.out 1
                                have p607 : 0 ≤ (x11_4 : Int) := of_decide_eq_true asm_
                                have q607 : x11_4 < (t604.length : Int) := of_decide_eq_true asm_
                                obtain ⟨ad607, A607_0, c607_0, e607, hx607_0, hx607_1, hl607_0, hi607_0⟩ := kR (Kd.R_reads' HO_10.out).2.2 x11_4 p607 q607
                                cases e607
                                obtain ⟨ce607, hce607, hMe607, hcc607⟩ := Kd.R_get HO_10.out z77 x11_4 p607 (by first | exact q607 | exact of_decide_eq_true asm_ | (have e_ := (Kd.R_reads' HO_10.out).1; omega))
                                obtain ⟨ve607_0, rfl, ge607_0⟩ := pK hMe607
                                have hv607_0 := hcc607 0 _ rfl
                                rw [Nat.add_zero] at hv607_0
                                replace hv607_0 := Option.some.inj (hv607_0.symm.trans hx607_0)
                                rw [hv607_0] at ge607_0
                                have HL607_0 := iC.mk (show Kd.R (Kd.int .i64) 3 _ _ _ _ ((iV t604 x11_4).f0) from ge607_0)
                                clear hv607_0 ge607_0
                                clear hcc607 hce607
                                have HR607_0 := iC.mk hi607_0
                                have HC607_0 := iC.mk hl607_0
                                clear hi607_0 hl607_0
                                replace p607 := eq_true p607
                                replace q607 := eq_true q607
                                have p608 : 0 ≤ (0 : Int) := (by omega)
                                have q608 : 0 < (((iV t604 x11_4).f0).length : Int) := of_decide_eq_true asm_
                                obtain ⟨ad608, e608, hx608_0⟩ := Kd.at_int (by repeat (first | (with_reducible exact HR607_0.out) | (with_reducible refine Kd.C_alloc ?_ _) | (with_reducible refine Kd.C_drewN ?_ _) | (with_reducible refine Kd.C_drew ?_) | exact HR607_0.out)) 0 p608 q608
                                cases e608
                                have qi608 : (0 < ((iV t604 x11_4).f0).length) = True := eq_true (by omega)
                                (try rw [show ((0 : Int)).toNat = 0 from rfl] at hx608_0)
                                (try rw [Addr.add_zero'] at hx608_0)
                                replace p608 := eq_true p608
                                replace q608 := eq_true q608
                                go_wp2
                                refine lT (n := 11) (S := fun w' => w'.cell? ⟨gb600, 0, none⟩ = some (.int .u32 t596) ∧ w'.cell? ⟨gb600, 1, none⟩ = some (.slice Ao14 t597.length co14) ∧ w'.cell? ((ad607).add ((x11_4).toNat * 2)) = some (.slice (some ad608) ((iV t604 x11_4).f0).length c607_0) ∧ w'.cell? ad608 = some (.int .i64 (rd ((iV t604 x11_4).f0) 0))) (ds := []) #[false, false, false, false, false, false, false, false, false, false, false] (by kernel_rfl) rfl rfl ⟨(iI BK600.out 0).trans rfl, (iI BK600.out 1).trans rfl, hx607_0, hx608_0⟩ (fun hHeld => ?_)
                                refine kK (T := (true, [([], []), ([], []), ([], []), ([1, 2], [1, 2]), ([3], [3]), ([4], [4]), ([5], [5]), ([6], [6]), ([0, 7], [0, 7]), ([], []), ([8, 9], [8, 9])])) (B := [0, 0, 0, 6, 14, 30, 62, 126, 255, 0, 1023]) (by kernel_rfl) (by kernel_rfl) (fun HT_ HW_ => ?_)
                                refine jI (i := 1) (N := some 66) (v := ?_) (a' := ?_) #[false, true, false, false, false, false, false, false, false, false, false] rfl rfl (jB HT_.out (by kernel_rfl)) (fun _ _ _ h => h) (Or.inl ⟨by rfl, ?_⟩) ?_ ?_
                                rotate_left
                                · intro w'
                                  go_simp
                                  with_reducible rfl
                                rotate_left
                                · simp only [Act.put, List.setIfInBounds_toArray, List.set_cons_zero, List.set_cons_succ, iY, iZ]
                                  rfl
                                refine jI (i := 2) (N := some 67) (v := ?_) (a' := ?_) #[false, true, true, false, false, false, false, false, false, false, false] rfl rfl (jB HT_.out (by kernel_rfl)) (fun _ _ _ h => h) (Or.inl ⟨by rfl, ?_⟩) ?_ ?_
                                rotate_left
                                · intro w'
                                  go_simp
                                  with_reducible rfl
                                rotate_left
                                · simp only [Act.put, List.setIfInBounds_toArray, List.set_cons_zero, List.set_cons_succ, iY, iZ]
                                  rfl
                                refine jI (i := 3) (N := some 68) (v := ?_) (a' := ?_) #[false, true, true, true, false, false, false, false, false, false, false] rfl rfl (jB HT_.out (by kernel_rfl)) (fun _ _ _ h => h) (Or.inl ⟨by rfl, ?_⟩) ?_ ?_
                                rotate_left
                                · intro w'
                                  go_simp
                                  with_reducible rfl
                                rotate_left
                                · simp only [Act.put, List.setIfInBounds_toArray, List.set_cons_zero, List.set_cons_succ, iY, iZ]
                                  rfl
                                refine jI (i := 4) (N := some 69) (v := ?_) (a' := ?_) #[false, true, true, true, true, false, false, false, false, false, false] rfl rfl (jB HT_.out (by kernel_rfl)) (fun _ _ _ h => h) (Or.inl ⟨by rfl, ?_⟩) ?_ ?_
                                rotate_left
                                · intro w'
                                  go_simp
                                  with_reducible rfl
                                rotate_left
                                · simp only [Act.put, List.setIfInBounds_toArray, List.set_cons_zero, List.set_cons_succ, iY, iZ]
                                  rfl
                                refine jI (i := 9) (N := some 74) (v := ?_) (a' := ?_) #[false, true, true, true, true, false, false, false, false, true, false] rfl rfl (jB HT_.out (by kernel_rfl)) (fun _ _ _ h => h) (Or.inl ⟨by rfl, ?_⟩) ?_ ?_
                                rotate_left
                                · intro w'
                                  go_simp
                                  with_reducible rfl
                                rotate_left
                                · simp only [Act.put, List.setIfInBounds_toArray, List.set_cons_zero, List.set_cons_succ, iY, iZ]
                                  rfl
                                refine take_ (i := 0) (N := some 65) (v := ?_) (a' := ?_) #[true, true, true, true, true, false, false, false, false, true, false] rfl rfl (jM HT_.out HW_.out (by kernel_rfl)) (fun _ _ _ h => h) (Or.inl ⟨by rfl, ?_⟩) hHeld ?_ ?_
                                rotate_left
                                · rintro w' ⟨s0, s1, s2, s3⟩
                                  go_simp
                                  with_reducible rfl
                                rotate_left
                                · simp only [Act.put, List.setIfInBounds_toArray, List.set_cons_zero, List.set_cons_succ, iY, iZ]
                                  rfl
                                refine take_ (i := 5) (N := some 70) (v := ?_) (a' := ?_) #[true, true, true, true, true, true, false, false, false, true, false] rfl rfl (jM HT_.out HW_.out (by kernel_rfl)) (fun _ _ _ h => h) (Or.inl ⟨by rfl, ?_⟩) hHeld ?_ ?_
                                rotate_left
                                · rintro w' ⟨s0, s1, s2, s3⟩
                                  go_simp
                                  with_reducible rfl
                                rotate_left
                                · simp only [Act.put, List.setIfInBounds_toArray, List.set_cons_zero, List.set_cons_succ, iY, iZ]
                                  rfl
                                refine jI (i := 6) (N := some 71) (v := ?_) (a' := ?_) #[true, true, true, true, true, true, true, false, false, true, false] rfl rfl (jB HT_.out (by kernel_rfl)) (fun _ _ _ h => h) (Or.inl ⟨by rfl, ?_⟩) ?_ ?_
                                rotate_left
                                · intro w'
                                  go_simp
                                  with_reducible rfl
                                rotate_left
                                · simp only [Act.put, List.setIfInBounds_toArray, List.set_cons_zero, List.set_cons_succ, iY, iZ]
                                  rfl
                                refine take_ (i := 7) (N := some 72) (v := ?_) (a' := ?_) #[true, true, true, true, true, true, true, true, false, true, false] rfl rfl (jM HT_.out HW_.out (by kernel_rfl)) (fun _ _ _ h => h) (Or.inl ⟨by rfl, ?_⟩) hHeld ?_ ?_
                                rotate_left
                                · rintro w' ⟨s0, s1, s2, s3⟩
                                  go_simp
                                  with_reducible rfl
                                rotate_left
                                · simp only [Act.put, List.setIfInBounds_toArray, List.set_cons_zero, List.set_cons_succ, iY, iZ]
                                  rfl
                                refine one_ (i := 8) (N := some 73) #[true, true, true, true, true, true, true, true, true, true, false] rfl rfl (kQ HT_.out (by kernel_rfl)) (by decide) (fun K hK => ?_)
                                refine nY Try.func35 (by kernel_rfl) rfl #[.agg #[.int .u32 t596, .slice Ao14 t597.length co14], .int .i64 (rd ((iV t604 x11_4).f0) 0)] (by rfl) rfl rfl (by simp only [List.map_toArray, List.map_cons, List.map_nil]; rfl) ?_
                                with_reducible refine (spans_Find.calls t596 _ _ t597 (rd ((iV t604 x11_4).f0) 0) t609 _ ?side1 ?side2 A28.out).mono ?_
                                (case side1 => repeat (first | exact (Kd.R_reads' HO_601001.out).2.2 | (with_reducible refine Kd.C_alloc ?_ _) | (with_reducible refine Kd.C_drewN ?_ _) | (with_reducible refine Kd.C_drew ?_)))
                                (case side2 => exact (Kd.R_reads' HO_601001.out).2.1)
                                rintro e w33 ⟨rfl, hb⟩
                                refine ⟨_, rfl, ?_⟩
                                have f1_ := (hb.cell (World.block_lt_of_cell? _ _ hx607_0)).trans hx607_0
                                have f2_ := (hb.cell (World.block_lt_of_cell? _ _ hx608_0)).trans hx608_0
                                have n0_ := iC.mk (Kd.R_below (by (with_reducible repeat (first | apply Kd.R_alloc | apply Kd.R_drewN | apply Kd.R_drew)); exact HO_10.out) hb)
                                have n1_ := iC.mk (Kd.R_below (by (with_reducible repeat (first | apply Kd.R_alloc | apply Kd.R_drewN | apply Kd.R_drew)); exact HO_601001.out) hb)
                                have n2_ := iC.mk (Kd.R_below (by (with_reducible repeat (first | apply Kd.R_alloc | apply Kd.R_drewN | apply Kd.R_drew)); exact HL607_0.out) hb)
                                have n3_ := iC.mk (iP (g := gb600) (o := .cells #[.int .u32 t596, .slice Ao14 t597.length co14] 42 (0, 0)) (bk_ BK600.out) hb)
                                have n4_ := iC.mk (Kd.C_below (by repeat (first | (with_reducible exact HR607_0.out) | (with_reducible refine Kd.C_alloc ?_ _) | (with_reducible refine Kd.C_drewN ?_ _) | (with_reducible refine Kd.C_drew ?_) | exact HR607_0.out)) hb)
                                have n5_ := iC.mk (iK (by repeat (first | (with_reducible first | exact HB.out | apply iF | apply iD | apply iG | refine iE ?_ GE600.out) | exact HB.out)) hb)
                                try clear HO_10
                                try clear HO_601001
                                try clear HL607_0
                                try clear BK600
                                try clear HR607_0
                                try clear HB
                                have HO_10 := n0_
                                have HO_601001 := n1_
                                have HL607_0 := n2_
                                have BK600 := n3_
                                have HR607_0 := n4_
                                have HB := n5_
                                clear n0_ n1_ n2_ n3_ n4_ n5_
                                (try clear hb)
                                (try clear hb2)
                                (try clear hk)
                                (try clear hi)
                                refine hK.out _ _ ⟨(iI BK600.out 0).trans rfl, (iI BK600.out 1).trans rfl, f1_, f2_⟩ (fun hHeld => ?_)
                                clear hK K
                                refine kT (a' := ?_) ?_ ?_
                                rotate_left
                                · show Act.put _ (some 73) _ = _
                                  simp only [Act.put, List.setIfInBounds_toArray, List.set_cons_zero, List.set_cons_succ, iY, iZ]
                                  rfl
                                refine jI (i := 10) (N := some 75) (v := ?_) (a' := ?_) #[true, true, true, true, true, true, true, true, true, true, true] rfl rfl (jB HT_.out (by kernel_rfl)) (fun _ _ _ h => h) (Or.inl ⟨by rfl, ?_⟩) ?_ ?_
                                rotate_left
                                · intro w'
                                  go_simp
                                  with_reducible rfl
                                rotate_left
                                · simp only [Act.put, List.setIfInBounds_toArray, List.set_cons_zero, List.set_cons_succ, iY, iZ]
                                  rfl
                                refine nU (kY HT_.out (by kernel_rfl)) ?_
                                go_wp2
                                go_ret
                                exact ⟨by first | rfl | (simp [iR, iQ] <;> rfl) | (simp [*, iR, iQ] <;> rfl), by repeat (first | (with_reducible first | exact HB.out | apply iF | apply iD | apply iG | refine iE ?_ GE600.out) | exact HB.out)⟩
                            · rw [if_neg c27] at H
                              exact absurd H (by simp)
                          · rw [if_neg c26] at H
                            exact absurd H (by simp)
                        · rw [if_neg c25] at H
                          have c25b0 : decide (x11_4 < (t604.length : Int)) = false := decide_eq_false c25
                          clear c25
                          have H' := iC.mk H
                          clear H
                          go_wp2
                          repeat (go_quiet (fail); try go_wp2)
                          go_roundg k4
                          case measure => have := HJ2.out; have := HK2.out; have := HK3.out; have := HK4.out; omega
                          case rel => exact ⟨((wrap64 (x6_3 + (t604.length : Int)))), (wrap64 (x9_3 + 1)), (by first | rfl | (simp; done) | (simp [*]; done)), (by first | rfl | (simp; done) | (simp [*]; done)), H', ⟨by have := HJ2.out; have := HK2.out; have := HK3.out; have := HK4.out; omega⟩, ⟨by (with_reducible repeat (first | apply Kd.R_alloc | apply Kd.R_drewN | apply Kd.R_drew)); exact HO_601001.out⟩, ⟨bk_ BK600.out⟩, ⟨by repeat (first | (with_reducible first | exact HB.out | apply iF | apply iD | apply iG | refine iE ?_ GE600.out) | exact HB.out)⟩⟩
                  · rw [if_neg c20] at H
                    have c20b0 : decide (x9_3 < 4) = false := decide_eq_false c20
                    clear c20
                    obtain rfl := Option.some.inj H
                    go_wp2
                    repeat (go_quiet (fail); try go_wp2)
                    go_ret
                    exact ⟨by first | rfl | (simp [iR, iQ] <;> rfl) | (simp [*, iR, iQ] <;> rfl), by repeat (first | (with_reducible first | exact HB.out | apply iF | apply iD | apply iG | refine iE ?_ GE600.out) | exact HB.out)⟩
end Go.Proofs.Ytbpdejbkfpkphaa.K
end

section
namespace Go.Proofs.Ytbpdejbkfpkphaa.K
open Go Go.RowKit Go.Proofs.YtbpdejbkfpkphaaW.PrintWords Go.Proofs.YtbpdejbkfpkphaaW.PrintLast Go.Proofs.YtbpdejbkfpkphaaW.PrintMore
theorem qR (c : Int) (L : List TSp) (xs : List TFa) (hxs : xs.length ≤ 100) (many : Int) :
    ∀ (n k i : Nat), i + n = xs.length → n < k →
      stratumlaw12_SpansWhole.l0 k xs many (((xs.take i).filter lL).length : Int) i c L = stratumlaw12_SpansWhole.l0 (k - n) xs many ((xs.filter lL).length : Int) xs.length c L
  | 0, k, i, hi, hk => by
    obtain rfl : i = xs.length := by omega
    rw [List.take_length]; rfl
  | n + 1, 0, i, hi, hk => by omega
  | n + 1, k + 1, i, hi, hk => by
    have hlt : i < xs.length := by omega
    have h1 : iV xs (i : Int) = xs[i] := oL xs i hlt
    have ht : xs.take (i + 1) = xs.take i ++ [xs[i]] := by rw [List.take_add_one, List.getElem?_eq_getElem hlt]; rfl
    have hlen : ((xs.take i).filter lL).length ≤ 100 := Nat.le_trans (List.length_filter_le _ _) (by simp; omega)
    have ih := qR c L xs hxs many n k (i + 1) (by omega) (by omega)
    rw [ht, List.filter_append, List.length_append] at ih
    rw [stratumlaw12_SpansWhole.l0, if_pos (by omega), if_pos (by omega), h1, lX i (by omega), show k + 1 - (n + 1) = k - n by omega]
    by_cases hp : 0 < xs[i].f0.length
    · rw [if_pos (by omega), if_pos (by omega)]
      by_cases hg : rd xs[i].f0 0 ≥ 0
      · rw [if_pos hg, lX _ (by omega)]
        have hin : lL xs[i] = true := by simp [lL, hp]; exact hg
        rw [List.filter_cons_of_pos hin] at ih
        exact ih
      · rw [if_neg hg]
        have hin : ¬ lL xs[i] = true := by simp [lL, hp]; omega
        rw [List.filter_cons_of_neg hin] at ih
        exact ih
    · rw [if_neg (by omega)]
      have hin : ¬ lL xs[i] = true := by simp [lL]; omega
      rw [List.filter_cons_of_neg hin] at ih
      exact ih
/-- The round's members are the node's. -/
theorem qZ (c : Int) (L : List TSp) (hL : L.length ≤ 40) (xs p : List TFa) (many has node : Int) (hp : ∀ x ∈ p, kU L node x = true) (hpl : p.length ≤ 100) :
    ∀ (n k i : Nat), i + n = p.length → n < k → stratumlaw12_SpansWhole.l2 k xs many has node p i c L = stratumlaw12_SpansWhole.l1 (k - n - 1) xs many has (wrap64 (node + 1)) c L
  | 0, 0, i, hi, hk => by omega
  | 0, k + 1, i, hi, hk => by
    rw [stratumlaw12_SpansWhole.l2, if_neg (by omega)]; rfl
  | n + 1, 0, i, hi, hk => by omega
  | n + 1, k + 1, i, hi, hk => by
    have hlt : i < p.length := by omega
    have h1 : iV p (i : Int) = p[i] := oL p i hlt
    have hin := hp p[i] (List.getElem_mem hlt)
    unfold kU at hin
    rw [Bool.and_eq_true, decide_eq_true_eq, decide_eq_true_eq] at hin
    rw [stratumlaw12_SpansWhole.l2, if_pos (by omega), if_pos (by omega), h1, if_pos (by omega), find_ok _ _ _ (by omega), Option.bind_some, if_pos hin.2, lX i (by omega), qZ c L hL xs p many has node hp hpl n k (i + 1) (by omega) (by omega), show k + 1 - (n + 1) - 1 = k - n - 1 by omega]
theorem qC (c : Int) (L : List TSp) (hL : L.length ≤ 40) (xs : List TFa) (hxs : xs.length ≤ 100) (hk : ∀ x ∈ xs, (x.f0.length : Int) ≤ 17592186044416) (many has node : Int) (hn : 0 ≤ node ∧ node < 4) (hm : 0 ≤ many ∧ many ≤ 1000) (k : Nat) (hkk : 300 < k) :
    stratumlaw12_SpansWhole.l1 k xs many has node c L = stratumlaw12_SpansWhole.l1 (k - 2 - (kC L xs node).length) xs (many + ((kC L xs node).length : Int)) has (node + 1) c L := by
  obtain ⟨k, rfl⟩ : ∃ j, k = j + 1 := ⟨k - 1, by omega⟩
  have hlen : (kC L xs node).length ≤ 100 := Nat.le_trans (List.length_filter_le _ _) hxs
  rw [stratumlaw12_SpansWhole.l1, if_pos (by omega), xB k c L (by omega) xs (by omega) hk node (by omega), Option.bind_some, nC (many + ((kC L xs node).length : Int)) (by omega) (by omega)]
  have := qZ c L hL xs (kC L xs node) (many + ((kC L xs node).length : Int)) has node (fun x hx => (List.mem_filter.1 hx).2) hlen (kC L xs node).length k 0 (by omega) (by omega)
  rw [show ((0 : Nat) : Int) = 0 from rfl] at this
  rw [this, nC (node + 1) (by omega) (by omega), show k - (kC L xs node).length - 1 = k + 1 - 2 - (kC L xs node).length by omega]
/-- Each good fact is in one of four nodes' parts. -/
theorem nR {L : List TSp} {n : Nat} (h : Snd L n 4) : ∀ (xs : List TFa), (xs.filter lL).length = (kC L xs 0).length + (kC L xs 1).length + (kC L xs 2).length + (kC L xs 3).length
  | [] => rfl
  | x :: r => by
    have ih := nR h r
    have hmn : mn 4 6 = 4 := by unfold mn; split <;> omega
    unfold kC at ih ⊢
    by_cases hp : 0 < x.f0.length
    · by_cases hg : 0 ≤ rd x.f0 0
      · have hf := h.find (rd x.f0 0) hg
        rw [hmn] at hf
        have hgo : lL x = true := by simp [lL, hp, hg]
        have hin : ∀ q, kU L q x = decide (jQ L (rd x.f0 0) = q) := fun q => by simp [kU, hp]
        simp only [List.filter_cons, hgo, hin, if_true, decide_eq_true_eq]
        have : jQ L (rd x.f0 0) = 0 ∨ jQ L (rd x.f0 0) = 1 ∨ jQ L (rd x.f0 0) = 2 ∨ jQ L (rd x.f0 0) = 3 := by omega
        rcases this with e | e | e | e <;> simp [e, ih] <;> omega
      · have hgo : lL x = false := by simp [lL, hg]
        have hin : ∀ q : Int, 0 ≤ q → kU L q x = false := fun q hq => by
          have hz : jQ L (rd x.f0 0) = -1 := by
            rw [lD]
            exact lG (fun y hy => by have := (h.ris.lo y hy).1; omega)
          simp [kU, hz]; intro _; omega
        rw [List.filter_cons_of_neg (by simp [hgo]), List.filter_cons_of_neg (by simp [hin 0 (by decide)]), List.filter_cons_of_neg (by simp [hin 1 (by decide)]), List.filter_cons_of_neg (by simp [hin 2 (by decide)]), List.filter_cons_of_neg (by simp [hin 3 (by decide)])]
        exact ih
    · have hgo : lL x = false := by simp [lL, hp]
      have hin : ∀ q, kU L q x = false := fun q => by simp [kU, hp]
      rw [List.filter_cons_of_neg (by simp [hgo]), List.filter_cons_of_neg (by simp [hin]), List.filter_cons_of_neg (by simp [hin]), List.filter_cons_of_neg (by simp [hin]), List.filter_cons_of_neg (by simp [hin])]
      exact ih
theorem whole_true (k : Nat) (hkk : 22000 < k) (cs : List TCu) (hcs : ∀ x ∈ cs, CutOk x) (xs : List TFa) (hk : ∀ x ∈ xs, (x.f0.length : Int) ≤ 17592186044416) : stratumlaw12_SpansWhole.f (k + 1) cs xs = some true := by
  unfold stratumlaw12_SpansWhole.f
  by_cases h : (xs.length : Int) > 100
  · rw [if_pos h, stratumlaw12_SpansWhole.j0, if_pos rfl, qO _ (by omega)]; rfl
  · rw [if_neg h, qO _ (by omega), Option.bind_some]
    have hxs : xs.length ≤ 100 := by omega
    obtain ⟨a, L, he, _, hs⟩ := I5 100 4 (by decide) (by decide) (by decide) (by decide) cs hcs k (by omega)
    rw [show ((100 : Nat) : Int) = 100 from rfl] at he
    have hL := hs.len
    rw [stratumlaw12_SpansWhole.j0, if_neg (by decide), he, Option.bind_some]
    dsimp only
    have h0 := qR a L xs hxs 0 xs.length k 0 (by omega) (by omega)
    rw [List.take_zero] at h0
    have h0 : stratumlaw12_SpansWhole.l0 k xs 0 0 0 a L = _ := h0
    rw [h0]
    have hlen : ∀ q, (kC L xs q).length ≤ 100 := fun q => Nat.le_trans (List.length_filter_le _ _) hxs
    have l0 := hlen 0
    have l1 := hlen 1
    have l2 := hlen 2
    have l3 := hlen 3
    have hc := nR hs xs
    obtain ⟨m, hm⟩ : ∃ m, k - xs.length = m + 1 := ⟨k - xs.length - 1, by omega⟩
    have R := fun many node hn hm2 k hk2 => qC a L hL xs hxs hk many ((xs.filter lL).length : Int) node hn hm2 k hk2
    rw [hm, stratumlaw12_SpansWhole.l0, if_neg (by omega), R 0 0 (by omega) (by omega) m (by omega)]
    generalize (kC L xs 0).length = p0 at *
    rw [show (0 : Int) + 1 = 1 from rfl, R (0 + (p0 : Int)) 1 (by omega) (by omega) (m - 2 - p0) (by omega)]
    generalize (kC L xs 1).length = p1 at *
    rw [show (1 : Int) + 1 = 2 from rfl, R (0 + (p0 : Int) + (p1 : Int)) 2 (by omega) (by omega) (m - 2 - p0 - 2 - p1) (by omega)]
    generalize (kC L xs 2).length = p2 at *
    rw [show (2 : Int) + 1 = 3 from rfl, R (0 + (p0 : Int) + (p1 : Int) + (p2 : Int)) 3 (by omega) (by omega) (m - 2 - p0 - 2 - p1 - 2 - p2) (by omega)]
    generalize (kC L xs 3).length = p3 at *
    obtain ⟨q, hq⟩ : ∃ q, m - 2 - p0 - 2 - p1 - 2 - p2 - 2 - p3 = q + 1 := ⟨m - 2 - p0 - 2 - p1 - 2 - p2 - 2 - p3 - 1, by omega⟩
    rw [hq, stratumlaw12_SpansWhole.l1, if_neg (by omega), hc]
    exact congrArg some (beq_iff_eq.2 (by omega))
end Go.Proofs.Ytbpdejbkfpkphaa.K
end

section
namespace Go.Proofs.Ytbpdejbkfpkphaa.My
open Go Go.RowKit Go.Proofs.YtbpdejbkfpkphaaW.PrintWords
theorem spansWhole_walk (A0 : Option Addr) (c0 : Nat) (l0 : List K.S55) (A1 : Option Addr) (c1 : Nat) (l1 : List K.S77) (w : World)
    (hC0 : K.k55.C w A0 l0.length l0) (hc0 : l0.length ≤ c0) (ok0 : (∀ x ∈ l0, K.CutOk x) ∧ (l0.length : Int) ≤ 140737488351232)
    (hC1 : K.k77.C w A1 l1.length l1) (hc1 : l1.length ≤ c1) (ok1 : ∀ x ∈ l1, (x.f0.length : Int) ≤ 17592186044416) :
    Calls Try.prog 12 #[.slice A0 l0.length c0, .slice A1 l1.length c1] w fun e w' => e = .returned (.bool true) ∧ Below w.heap.size w w' :=
  K.stratumlaw12_SpansWhole.calls (22500 + 1) A0 c0 l0 A1 c1 l1 true w hC0 hc0 hC1 hc1 (K.whole_true 22500 (by omega) l0 ok0.1 l1 ok1)
end Go.Proofs.Ytbpdejbkfpkphaa.My
end

section
namespace Go.Proofs.Ytbpdejbkfpkphaa.My
open Go Go.RowKit Go.Deep Go.ChangeShapes Go.WideShapes Go.ChangeAt Go.Proofs.YtbpdejbkfpkphaaW.PrintWords
/-- A value of type t that came in reads as a v of kind d, of which ok holds and which is no heavier than the datum's bulk. -/
def Came {α : Type} (d : Kd α) (t : TypeId) (ok : α → Prop) (wt : α → Nat) : Prop :=
  ∀ {H : Type} (enc : TypeId × Value → H) (w : World) (fuel : Nat) (cs : List Value) (x : DataW H × List MemPlace), DataW.trod enc Try.prog w 0 (fun _ => true) true fuel t cs = some x → ∃ v : α, d.K w v cs ∧ ok v ∧ wt v ≤ Rows.uptoBulk x.1
theorem vS {k : IntKind} {t : TypeId} (ht : Try.prog.underlying t = some (.int k)) : Came (Kd.int k) t (fun n => (Lit.int k n).wf = true) (fun _ => 1) := by
  intro H enc w fuel cs x h
  obtain ⟨n, rfl, hx, hw⟩ := DataW.trod_int ht h
  exact ⟨n, rfl, hw, by rw [hx]; simp [Rows.uptoBulk]⟩
theorem xG {α : Type} [Inhabited α] {n : Nat} {p : Nat → α → Prop} (h : ∀ i, i < n → ∃ x, p i x) : ∃ f : Nat → α, ∀ i, i < n → p i (f i) := by
  classical
  refine ⟨fun i => if h' : i < n then Classical.choose (h i h') else default, fun i hi => ?_⟩
  simp only [dif_pos hi]
  exact Classical.choose_spec (h i hi)
theorem vJ {w : World} {a : Addr} {n : Nat} {cs : List Value} (h : w.cells? 0 a n = some cs) (i : Nat) (v : Value) (hi : cs[i]? = some v) : w.cell? (a.add i) = some v := by
  obtain ⟨_, hl, hc⟩ := World.cells?_some h
  have hil : i < n := by have := (List.getElem?_eq_some_iff.1 hi).1; omega
  rw [hc i hil]
  exact hi
end Go.Proofs.Ytbpdejbkfpkphaa.My
end

section
namespace Go.Proofs.Ytbpdejbkfpkphaa.My
open Go Go.RowKit Go.Deep Go.ChangeShapes Go.WideShapes Go.ChangeAt Go.Proofs.YtbpdejbkfpkphaaW.PrintWords
/-- Nothing in it is too large. -/
def Reach {H : Type} (t : TypeId) (d : DataW H) : Prop := ∀ n ∈ d.weights Try.prog t, n ≤ reachBytes
def kV {α : Type} (d : Kd α) (t : TypeId) (ok : α → Prop) : Prop :=
  ∀ {H : Type} (enc : TypeId × Value → H) (w : World) (fuel : Nat) (cs : List Value) (x : DataW H × List MemPlace), DataW.trod enc Try.prog w 0 (fun _ => true) true fuel t cs = some x → Reach t x.1 → ∃ v : α, d.K w v cs ∧ ok v
theorem xA {α : Type} {d : Kd α} {t : TypeId} {ok : α → Prop} {wt : α → Nat} (h : Came d t ok wt) : kV d t ok := by
  intro H enc w fuel cs x hx _
  obtain ⟨v, h1, h2, _⟩ := h enc w fuel cs x hx
  exact ⟨v, h1, h2⟩
theorem l7 {α : Type} {d : Kd α} {t : TypeId} {ok ok' : α → Prop} (h : kV d t ok) (hok : ∀ x, ok x → ok' x) : kV d t ok' := by
  intro H enc w fuel cs x hx hr
  obtain ⟨v, h1, h2⟩ := h enc w fuel cs x hx hr
  exact ⟨v, h1, hok v h2⟩
theorem nP {H : Type} {e : TypeId} : ∀ {l : List (DataW H)} {d : DataW H}, d ∈ l → ∀ n ∈ d.weights Try.prog e, n ∈ DataW.weightsAll Try.prog e l
  | x :: l, d, hd, n, hn => by
    simp only [DataW.weightsAll, List.mem_append]
    rcases List.mem_cons.1 hd with rfl | hd
    · exact .inl hn
    · exact .inr (nP hd n hn)
  | [], d, hd, n, hn => by cases hd
theorem lV {α : Type} [Inhabited α] {d : Kd α} {t e : TypeId} {ok : α → Prop} {B : Nat} (ht : Try.prog.underlying t = some (.slice e)) (hc : Try.prog.cellsOf e = d.sz) (hB : Try.prog.bytesOf e = B) (he : kV d e ok) :
    kV (Kd.slice e d) t (fun l => l.length * B ≤ reachBytes ∧ ∀ x ∈ l, ok x) := by
  intro H enc w fuel cs x h hr
  rcases open_slice ht h with ⟨rfl, rfl⟩ | ⟨ad, len, cap, m, n, D, Pl, rfl, _, hl, hmax, hm, rfl, hel⟩
  · exact ⟨[], ⟨none, 0, rfl, Nat.le_refl _, ⟨rfl, by simp, fun h => absurd h (Nat.lt_irrefl 0)⟩⟩, by simp⟩
  · have hlm : len ≤ m := by rw [hm]; simp; exact hl
    have hw : ∀ n, n ∈ (((List.range len).map D).length + ((List.range (m - len)).map fun j => D (len + j)).length) * Try.prog.bytesOf e :: (DataW.weightsAll Try.prog e ((List.range len).map D) ++ DataW.weightsAll Try.prog e ((List.range (m - len)).map fun j => D (len + j))) → n ≤ reachBytes := by
      intro n hn
      refine hr n ?_
      simp only [DataW.weights, ht]
      exact hn
    have one : ∀ i, i < len → ∃ v : α, (∃ cs', w.cells? 0 (ad.add (i * Try.prog.cellsOf e)) (Try.prog.cellsOf e) = some cs' ∧ d.K w v cs') ∧ ok v := by
      intro i hi
      obtain ⟨cs', h1, h2⟩ := hel i (by omega)
      obtain ⟨v, h3, h4⟩ := he enc w n cs' _ h2 (fun k hk => hw k (List.mem_cons_of_mem _ (List.mem_append_left _ (nP (List.mem_map.2 ⟨i, List.mem_range.2 hi, rfl⟩) k hk))))
      exact ⟨v, ⟨cs', h1, h3⟩, h4⟩
    obtain ⟨L, hL⟩ := xG one
    have hlen : ((List.range len).map L).length = len := by simp
    refine ⟨(List.range len).map L, ⟨some ad, cap, by rw [hlen], by rw [hlen]; exact hl, ?_⟩, ?_, ?_⟩
    · rw [hlen]
      refine ⟨hlen, by unfold maxLen at hmax; omega, fun _ => ⟨ad, rfl, fun j p hj => ?_⟩⟩
      have hjl : j < len := by have := (List.getElem?_eq_some_iff.1 hj).1; simpa using this
      have hp : p = L j := by
        rw [List.getElem?_map, List.getElem?_range hjl] at hj
        simp only [Option.map_some, Option.some.injEq] at hj
        exact hj.symm
      subst hp
      obtain ⟨⟨cs', h1, h2⟩, _⟩ := hL j hjl
      rw [hc] at h1
      refine ⟨cs', d.K_len h2, h2, fun i u hi => ?_⟩
      have := vJ h1 i u hi
      rwa [Go.Deep.add_add] at this
    · have h1 := hw _ List.mem_cons_self
      rw [List.length_map, List.length_map, List.length_range, List.length_range, hB] at h1
      rw [hlen]
      exact Nat.le_trans (Nat.mul_le_mul_right B (by omega)) h1
    · intro y hy
      obtain ⟨i, hi, rfl⟩ := List.mem_map.1 hy
      exact (hL i (List.mem_range.1 hi)).2
/-- What a slice argument is. -/
theorem came_CS {α : Type} {d : Kd α} {t e : TypeId} {ok : List α → Prop} (h : kV (Kd.slice e d) t ok) {H : Type} (enc : TypeId × Value → H) {w : World} {fuel : Nat} {v : Value} {x : DataW H × List MemPlace} (ht : DataW.trod enc Try.prog w 0 (fun _ => true) true fuel t v.cells.toList = some x) (hr : Reach t x.1) :
    ∃ (A : Option Addr) (c : Nat) (l : List α), v.cells.toList = [.slice A l.length c] ∧ l.length ≤ c ∧ d.C w A l.length l ∧ ok l := by
  obtain ⟨l, ⟨A, c, h1, h2, h3⟩, h4⟩ := h enc w fuel _ x ht hr
  exact ⟨A, c, l, h1, h2, h3, h4⟩
theorem reach_arg {H : Type} {ts : List TypeId} {ds : List (DataW H)} (h : (DataW.weightsEach Try.prog ts ds).all (· ≤ reachBytes) = true) {j : Nat} {t : TypeId} {d : DataW H} (ht : ts[j]? = some t) (hd : ds[j]? = some d) : Reach t d := fun n hn => by
  have := List.all_eq_true.1 h n (DataW.weights_mem_each ht hd n hn)
  simpa using this
theorem pO : reachBytes = 140737488351232 := rfl
end Go.Proofs.Ytbpdejbkfpkphaa.My
end

section
namespace Go.Proofs.Ytbpdejbkfpkphaa.My
open Go Go.RowKit Go.Deep Go.ChangeShapes Go.WideShapes Go.ChangeAt Go.Proofs.YtbpdejbkfpkphaaW.PrintWords
theorem rM {α β : Type} {da : Kd α} {db : Kd β} {t : TypeId} {f0 f1 : Field} {oka : α → Prop} {okb : β → Prop} (ht : Try.prog.underlying t = some (.struct #[f0, f1])) (ct : Try.prog.cellsOf t = da.sz + db.sz)
    (h0 : f0.offset = 0) (h1 : f1.offset = da.sz) (c0 : Try.prog.cellsOf f0.type = da.sz) (c1 : Try.prog.cellsOf f1.type = db.sz) (A : kV da f0.type oka) (B : kV db f1.type okb) :
    kV (Kd.pair da db) t (fun x => oka x.1 ∧ okb x.2) := by
  intro H enc w fuel cs x h hr
  obtain ⟨y0, y1, n, rfl, hl, e0, e1⟩ := trod_struct2 ht h
  rw [h0, c0, List.drop_zero] at e0
  rw [h1, c1] at e1
  have hw : ∀ k, k ∈ DataW.weights Try.prog f0.type y0.1 ++ (DataW.weights Try.prog f1.type y1.1 ++ []) → k ≤ reachBytes := fun k hk => hr k (by
    simp only [DataW.weights, ht]
    simpa [DataW.weightsEach] using hk)
  obtain ⟨v0, k0, o0⟩ := A enc w n _ _ e0 (fun k hk => hw k (List.mem_append_left _ hk))
  obtain ⟨v1, k1, o1⟩ := B enc w n _ _ e1 (fun k hk => hw k (List.mem_append_right _ (List.mem_append_left _ hk)))
  refine ⟨(v0, v1), ⟨_, _, ?_, k0, k1⟩, ⟨o0, o1⟩⟩
  rw [List.take_of_length_le (l := cs.drop da.sz) (by rw [List.length_drop]; omega), List.take_append_drop]
theorem oI {α : Type} {n : Nat} : ∀ {l : List α}, l.length = n + 1 → ∃ x t, l = x :: t ∧ t.length = n
  | x :: t, h => ⟨x, t, rfl, by simpa using h⟩
theorem rG {α β γ : Type} {da : Kd α} {db : Kd β} {dc : Kd γ} {t : TypeId} {f0 f1 f2 : Field} {oka : α → Prop} {okb : β → Prop} {okc : γ → Prop} (ht : Try.prog.underlying t = some (.struct #[f0, f1, f2])) (ct : Try.prog.cellsOf t = da.sz + (db.sz + dc.sz))
    (h0 : f0.offset = 0) (h1 : f1.offset = da.sz) (h2 : f2.offset = da.sz + db.sz) (c0 : Try.prog.cellsOf f0.type = da.sz) (c1 : Try.prog.cellsOf f1.type = db.sz) (c2 : Try.prog.cellsOf f2.type = dc.sz) (A : kV da f0.type oka) (B : kV db f1.type okb) (C : kV dc f2.type okc) :
    kV (Kd.pair da (Kd.pair db dc)) t (fun x => oka x.1 ∧ okb x.2.1 ∧ okc x.2.2) := by
  intro H enc w fuel cs x h hr
  obtain ⟨xs, n, rfl, rfl, hl, hlen, hf⟩ := DataW.trod_struct ht h
  have hl0 : xs.length = 2 + 1 := hlen
  obtain ⟨y0, t0, rfl, hl1⟩ := oI hl0
  obtain ⟨y1, t1, rfl, hl2⟩ := oI (n := 1) hl1
  obtain ⟨y2, t2, rfl, hl3⟩ := oI (n := 0) hl2
  obtain rfl := List.eq_nil_of_length_eq_zero hl3
  · have e0 := hf 0 _ rfl
    have e1 := hf 1 _ rfl
    have e2 := hf 2 _ rfl
    have e0 : DataW.trod enc Try.prog w 0 (fun _ => true) true n f0.type (List.take (Try.prog.cellsOf f0.type) (List.drop f0.offset cs)) = some y0 := e0
    have e1 : DataW.trod enc Try.prog w 0 (fun _ => true) true n f1.type (List.take (Try.prog.cellsOf f1.type) (List.drop f1.offset cs)) = some y1 := e1
    have e2 : DataW.trod enc Try.prog w 0 (fun _ => true) true n f2.type (List.take (Try.prog.cellsOf f2.type) (List.drop f2.offset cs)) = some y2 := e2
    rw [h0, c0, List.drop_zero] at e0
    rw [h1, c1] at e1
    rw [h2, c2] at e2
    have hl : cs.length = da.sz + (db.sz + dc.sz) := by rw [← ct]; exact hl
    have hw : ∀ k, k ∈ DataW.weights Try.prog f0.type y0.1 ++ (DataW.weights Try.prog f1.type y1.1 ++ (DataW.weights Try.prog f2.type y2.1 ++ [])) → k ≤ reachBytes := fun k hk => hr k (by
      simp only [DataW.weights, ht]
      simpa [DataW.weightsEach] using hk)
    obtain ⟨v0, k0, o0⟩ := A enc w n _ _ e0 (fun k hk => hw k (List.mem_append_left _ hk))
    obtain ⟨v1, k1, o1⟩ := B enc w n _ _ e1 (fun k hk => hw k (List.mem_append_right _ (List.mem_append_left _ hk)))
    obtain ⟨v2, k2, o2⟩ := C enc w n _ _ e2 (fun k hk => hw k (List.mem_append_right _ (List.mem_append_right _ (List.mem_append_left _ hk))))
    refine ⟨(v0, v1, v2), ⟨_, _, ?_, k0, _, _, rfl, k1, k2⟩, ⟨o0, o1, o2⟩⟩
    have hd : List.drop (da.sz + db.sz) cs = List.drop db.sz (List.drop da.sz cs) := by first | rw [List.drop_drop] | rw [List.drop_drop, Nat.add_comm]
    rw [List.take_of_length_le (l := List.drop (da.sz + db.sz) cs) (by rw [List.length_drop]; omega), hd, List.take_append_drop, List.take_append_drop]
theorem pX {α β : Type} {d : Kd α} {t : TypeId} {ok : α → Prop} (f : β → α) (g : α → β) (hfg : ∀ x, f (g x) = x) (h : kV d t ok) : kV (Kd.iso d f) t (fun y => ok (f y)) := by
  intro H enc w fuel cs x hx hr
  obtain ⟨v, h1, h2⟩ := h enc w fuel cs x hx hr
  exact ⟨g v, by show d.K w (f (g v)) cs; rw [hfg]; exact h1, by show ok (f (g v)); rw [hfg]; exact h2⟩
theorem lN {k : IntKind} {t : TypeId} (ht : Try.prog.underlying t = some (.int k)) : kV (Kd.int k) t (fun n => (Lit.int k n).wf = true) := xA (vS ht)
theorem rX : kV (Kd.slice 3 (Kd.int .i64)) 25 (fun l => (l.length : Int) ≤ 17592186044416) :=
  l7 (lV (B := 8) Try.underlying25 (by kernel_rfl) (by kernel_rfl) (lN Try.underlying3)) (fun _ h => by have := h.1; rw [pO] at this; omega)
instance : Inhabited K.S77 := ⟨K.z77⟩
instance : Inhabited K.S60 := ⟨K.z60⟩
theorem rF : kV K.k77 77 (fun x => (x.f0.length : Int) ≤ 17592186044416) :=
  l7 (pX (fun x : K.S77 => (x.f0, x.f1)) (fun p => ⟨p.1, p.2⟩) (fun _ => rfl) (rM Try.underlying77 (by kernel_rfl) rfl rfl (by kernel_rfl) (by kernel_rfl) rX (lN Try.underlying2))) (fun _ h => h.1)
theorem cameS_facts : kV (Kd.slice 77 K.k77) 45 (fun l => ∀ x ∈ l, (x.f0.length : Int) ≤ 17592186044416) :=
  l7 (lV (B := 32) Try.underlying45 (by kernel_rfl) (by kernel_rfl) rF) (fun _ h => h.2)
instance : Inhabited K.S55 := ⟨K.z55⟩
theorem uZ : kV K.k55 55 (fun x => (0 ≤ x.f0 ∧ x.f0 < 65536) ∧ (0 ≤ x.f1 ∧ x.f1 < 65536) ∧ (0 ≤ x.f2 ∧ x.f2 < 256)) :=
  l7 (pX (fun x : K.S55 => (x.f0, x.f1, x.f2)) (fun p => ⟨p.1, p.2.1, p.2.2⟩) (fun _ => rfl) (rG Try.underlying55 (by kernel_rfl) rfl rfl rfl (by kernel_rfl) (by kernel_rfl) (by kernel_rfl) (lN Try.underlying29) (lN Try.underlying29) (lN Try.underlying5))) (fun _ h => ⟨wf_u16 h.1, wf_u16 h.2.1, wf_u8 h.2.2⟩)
theorem cameS_cuts : kV (Kd.slice 55 K.k55) 39 (fun l => (∀ x ∈ l, (0 ≤ x.f0 ∧ x.f0 < 65536) ∧ (0 ≤ x.f1 ∧ x.f1 < 65536) ∧ (0 ≤ x.f2 ∧ x.f2 < 256)) ∧ (l.length : Int) ≤ 140737488351232) :=
  l7 (lV (B := 6) Try.underlying39 (by kernel_rfl) (by kernel_rfl) uZ) (fun _ h => ⟨h.2, by have := h.1; rw [pO] at this; omega⟩)
end Go.Proofs.Ytbpdejbkfpkphaa.My
end
