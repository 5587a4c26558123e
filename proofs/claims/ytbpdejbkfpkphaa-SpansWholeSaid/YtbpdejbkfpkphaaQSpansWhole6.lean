/- Parts of the proof, one behind the other: K37, SpQ, SpR, SpS, SpT, SpU, SpV, SpE, K38, K39. -/
import Derived.Test.YtbpdejbkfpkphaaQSpansWhole5
set_option linter.unusedVariables false
set_option linter.unusedSimpArgs false
section
namespace Go.Proofs.Ytbpdejbkfpkphaa.K
open Go.RowKit Go.Proofs.YtbpdejbkfpkphaaW.PrintWords Go.Proofs.YtbpdejbkfpkphaaW.PrintLast Go.Proofs.YtbpdejbkfpkphaaW.PrintMore
attribute [local go_sem] jU jT jZ jY jO jP jW jV
mutual
def stratumlaw12_SpansNew.j0 : Nat → Int → List (S77) → Bool → Option (Bool)
  | 0, _, _, _ => none
  | k + 1, x0, x1, x15 => if x15 = true then ((stratumlaw12_known.f k).bind fun t307 => (some t307)) else ((spans_New.f).bind fun bt308 => (stratumlaw12_SpansNew.l0 k x0 x1 0 0 bt308.1 bt308.2))
def stratumlaw12_SpansNew.l0 : Nat → Int → List (S77) → Int → Int → Int → List (S60) → Option (Bool)
  | 0, _, _, _, _, _, _ => none
  | k + 1, x0, x1, x6, x7, x313000, x313001 => if x7 < (x1.length : Int) then (if 0 ≤ x7 then (if (((iV x1 x7).f0).length : Int) > 0 then (if 0 < (((iV x1 x7).f0).length : Int) then (if (rd ((iV x1 x7).f0) 0) ≥ 0 then (stratumlaw12_SpansNew.l0 k x0 x1 (wrap64 (x6 + 1)) (wrap64 (x7 + 1)) x313000 x313001) else (stratumlaw12_SpansNew.l0 k x0 x1 x6 (wrap64 (x7 + 1)) x313000 x313001)) else (none)) else (stratumlaw12_SpansNew.l0 k x0 x1 x6 (wrap64 (x7 + 1)) x313000 x313001)) else (none)) else ((spans_Nodes.f x313000 x313001 (wrap64 (Int.tmod x0 1000)) (wrap64 ((wrap64 (Int.tmod x0 1000)) + 1))).bind fun t316 => (if x313000 = 1 then ((spans_Find.f x313000 x313001 (wrap64 (x0))).bind fun t319 => (if t319 = 0 then ((spans_Find.f x313000 x313001 (-1)).bind fun t320 => (if t320 = (-1) then (if (t316.length : Int) = 1 then (if 0 < (t316.length : Int) then (if (rd t316 0) = 0 then ((spans_Parts.f k x313000 x313001 x1 0).bind fun t322 => (if (t322.length : Int) = x6 then ((spans_Parts.f k x313000 x313001 x1 1).bind fun t325 => (if (t325.length : Int) = 0 then ((spans_Sound.f k x313000 x313001 1 1).bind fun t328 => (some t328)) else (some false))) else (some false))) else (some false)) else (none)) else (some false)) else (some false))) else (some false))) else (some false)))
end
def stratumlaw12_SpansNew.f (k : Nat) (a0 : Int) (l1 : List (S77)) : Option (Bool) := if (l1.length : Int) > 100 then (stratumlaw12_SpansNew.j0 k a0 l1 true) else ((stratumlaw12_known.f k).bind fun t306 => (stratumlaw12_SpansNew.j0 k a0 l1 (!t306)))
theorem stratumlaw12_SpansNew.mono_l : ∀ k, (∀ y0 y1 y2, LeO (stratumlaw12_SpansNew.j0 k y0 y1 y2) (stratumlaw12_SpansNew.j0 (k + 1) y0 y1 y2)) ∧ (∀ y0 y1 y2 y3 y4 y5, LeO (stratumlaw12_SpansNew.l0 k y0 y1 y2 y3 y4 y5) (stratumlaw12_SpansNew.l0 (k + 1) y0 y1 y2 y3 y4 y5))
  | 0 => ⟨fun _ _ _ r h => by simp [stratumlaw12_SpansNew.j0] at h, fun _ _ _ _ _ _ r h => by simp [stratumlaw12_SpansNew.l0] at h⟩
  | k + 1 => by
    obtain ⟨ih0, ih1⟩ := stratumlaw12_SpansNew.mono_l k
    refine ⟨?_, ?_⟩
    · intro y0 y1 y2
      unfold stratumlaw12_SpansNew.j0
      repeat' first
      | (with_reducible exact ih0 _ _ _)
      | (with_reducible exact ih1 _ _ _ _ _ _)
      | (with_reducible exact spans_Parts.mono _ _ _ _ _)
      | (with_reducible exact spans_Sound.mono _ _ _ _ _)
      | (with_reducible exact stratumlaw12_known.mono _)
      | (with_reducible exact LeO.refl _)
      | (with_reducible exact LeO.none _)
      | (with_reducible refine LeO.ite ?_ ?_)
      | (with_reducible refine LeO.bind ?_ (fun _ => ?_))
      | exact ih0 _ _ _
      | exact ih1 _ _ _ _ _ _
      | exact spans_Parts.mono _ _ _ _ _
      | exact spans_Sound.mono _ _ _ _ _
      | exact stratumlaw12_known.mono _
      | exact LeO.none _
      | refine LeO.ite ?_ ?_
      | refine LeO.bind ?_ (fun _ => ?_)
    · intro y0 y1 y2 y3 y4 y5
      unfold stratumlaw12_SpansNew.l0
      repeat' first
      | (with_reducible exact ih0 _ _ _)
      | (with_reducible exact ih1 _ _ _ _ _ _)
      | (with_reducible exact spans_Parts.mono _ _ _ _ _)
      | (with_reducible exact spans_Sound.mono _ _ _ _ _)
      | (with_reducible exact stratumlaw12_known.mono _)
      | (with_reducible exact LeO.refl _)
      | (with_reducible exact LeO.none _)
      | (with_reducible refine LeO.ite ?_ ?_)
      | (with_reducible refine LeO.bind ?_ (fun _ => ?_))
      | exact ih0 _ _ _
      | exact ih1 _ _ _ _ _ _
      | exact spans_Parts.mono _ _ _ _ _
      | exact spans_Sound.mono _ _ _ _ _
      | exact stratumlaw12_known.mono _
      | exact LeO.none _
      | refine LeO.ite ?_ ?_
      | refine LeO.bind ?_ (fun _ => ?_)
theorem stratumlaw12_SpansNew.mono : ∀ a0 a1 k, LeO (stratumlaw12_SpansNew.f k a0 a1) (stratumlaw12_SpansNew.f (k + 1) a0 a1) := by
  intro a0 a1 k
  obtain ⟨ih0, ih1⟩ := stratumlaw12_SpansNew.mono_l k
  unfold stratumlaw12_SpansNew.f
  repeat' first
      | (with_reducible exact ih0 _ _ _)
      | (with_reducible exact ih1 _ _ _ _ _ _)
      | (with_reducible exact spans_Parts.mono _ _ _ _ _)
      | (with_reducible exact spans_Sound.mono _ _ _ _ _)
      | (with_reducible exact stratumlaw12_known.mono _)
      | (with_reducible exact LeO.refl _)
      | (with_reducible exact LeO.none _)
      | (with_reducible refine LeO.ite ?_ ?_)
      | (with_reducible refine LeO.bind ?_ (fun _ => ?_))
      | exact ih0 _ _ _
      | exact ih1 _ _ _ _ _ _
      | exact spans_Parts.mono _ _ _ _ _
      | exact spans_Sound.mono _ _ _ _ _
      | exact stratumlaw12_known.mono _
      | exact LeO.none _
      | refine LeO.ite ?_ ?_
      | refine LeO.bind ?_ (fun _ => ?_)
set_option maxHeartbeats 8000000 in
set_option maxRecDepth 100000 in
theorem stratumlaw12_SpansNew.calls (k : Nat) (a0 : Int) (A1 : Option Addr) (c1 : Nat) (l1 : List (S77)) (r : Bool) (w : World) (hr1 : Kd.C k77 w A1 l1.length l1) (hc1 : l1.length ≤ c1) (h : stratumlaw12_SpansNew.f k a0 l1 = some r) :
    Calls Try.prog 13 #[.int .u16 a0, .slice A1 l1.length c1] w fun e w' => e = .returned (.bool r) ∧ Below w.heap.size w w' := by
  have hu42 := Try.underlying42
  have HR1 := iC.mk hr1
  have HC1 := iC.mk hc1
  clear hr1 hc1
  have HB := iC.mk (Below.refl w.heap.size w)
  have H : (if (l1.length : Int) > 100 then (stratumlaw12_SpansNew.j0 k a0 l1 true) else ((stratumlaw12_known.f k).bind fun t306 => (stratumlaw12_SpansNew.j0 k a0 l1 (!t306)))) = some r := h
  clear h
  have HC3 := iC.mk H
  clear H
  go_enter Try.func13, Try.ntmps13
  go_upto_region 1 with (fail)
  go_cut [15] (fun v15 wc => ∃ (kq : Nat) (x15_2 : Bool), v15 = .bool x15_2 ∧ iC (stratumlaw12_SpansNew.j0 kq a0 l1 x15_2 = some r) ∧ iC (kq ≤ k) ∧ iC (Below w.heap.size w wc))
  case first =>
    have H := HC3.out
    clear HC3
    by_cases c4 : (l1.length : Int) > 100
    · rw [if_pos c4] at H
      have c4b0 : decide (100 < (l1.length : Int)) = true := decide_eq_true c4
      have c4b1 : decide (100 < l1.length) = true := decide_eq_true (by omega)
      clear c4
      (first | rw [c4b0] | (simp only [iY, iZ]; rw [c4b0]) | skip)
      have H' := iC.mk H
      clear H
      go_wp2
      go_meet
      case rel => exact ⟨_, (true), (by first | rfl | (simp; done) | (simp [*]; done)), H', ⟨by first | omega | exact Nat.le_refl _⟩, ⟨hb_⟩⟩
    · rw [if_neg c4] at H
      have c4b0 : decide (100 < (l1.length : Int)) = false := decide_eq_false c4
      have c4b1 : decide (100 < l1.length) = false := decide_eq_false (by omega)
      clear c4
      (first | rw [c4b0] | (simp only [iY, iZ]; rw [c4b0]) | skip)
      replace H := Option.bind_eq_some_iff.mp H
      obtain ⟨t306, A50, H⟩ := H
      replace H : (stratumlaw12_SpansNew.j0 k a0 l1 (!t306)) = some r := H
      have A5 := iC.mk A50
      clear A50
      have H' := iC.mk H
      clear H
      go_wp2_with (first | (go_at_call 29; (with_reducible refine (stratumlaw12_known.calls k  t306 _ A5.out).mono ?_); rintro e w6 ⟨rfl, hb⟩; have n0_ := iC.mk (iK hb_ hb); clear HB; have HB := n0_; clear n0_; (try clear hb); (try clear hb2); (try clear hk); (try clear hi)))
      go_meet
      case rel => exact ⟨_, (!t306), (by first | rfl | (simp; done) | (simp [*]; done)), H', ⟨by first | omega | exact Nat.le_refl _⟩, ⟨hb_⟩⟩
  case rest =>
    clear HC3
    try clear c1
    try clear p2
    try clear c4
    try clear c4b0
    try clear c4b1
    obtain ⟨kq, x15_2, rfl, HA, HJ2, HB⟩ := hcut
    cases kq with
    | zero => exact absurd HA.out (by simp [stratumlaw12_SpansNew.j0])
    | succ kj2 =>
      have H := HA.out
      clear HA
      simp only [stratumlaw12_SpansNew.j0] at H
      by_cases c7 : x15_2 = true
      · subst c7
        have H1 : ((stratumlaw12_known.f kj2).bind fun t307 => (some t307)) = some r := by rw [if_pos rfl] at H; exact H
        clear H
        have H := H1
        clear H1
        replace H := Option.bind_eq_some_iff.mp H
        obtain ⟨t307, A80, H⟩ := H
        replace H : (some t307) = some r := H
        have A8 := iC.mk A80
        clear A80
        obtain rfl := Option.some.inj H
        go_wp2_with (first | ((with_reducible refine iU (f := 29) rfl ?_); refine jJ (some 16) rfl rfl Try.func29 (by kernel_rfl) rfl #[] rfl (by (try simp only [List.map_toArray, List.map_cons, List.map_nil]); first | done | rfl | (simp only [List.length_drop, List.length_take]; rfl)) ?_; (with_reducible refine (stratumlaw12_known.calls kj2  t307 _ A8.out).mono ?_); rintro e w9 ⟨rfl, hb⟩; refine ⟨_, rfl, ?_⟩; have n0_ := iC.mk (iK hb_ hb); clear HB; have HB := n0_; clear n0_; (try clear hb); (try clear hb2); (try clear hk); (try clear hi)))
        go_ret
        exact ⟨by first | rfl | (simp [iR, iQ] <;> rfl) | (simp [*, iR, iQ] <;> rfl), hb_⟩
      · replace c7 := Bool.eq_false_iff.mpr c7
        subst c7
        have H1 : ((spans_New.f).bind fun bt308 => (stratumlaw12_SpansNew.l0 kj2 a0 l1 0 0 bt308.1 bt308.2)) = some r := by rw [if_neg (show ¬ (false = true) by decide)] at H; exact H
        clear H
        have H := H1
        clear H1
        replace H := Option.bind_eq_some_iff.mp H
        obtain ⟨⟨t308, t309⟩, A100, H⟩ := H
        replace H : (stratumlaw12_SpansNew.l0 kj2 a0 l1 0 0 t308 t309) = some r := H
        have A10 := iC.mk A100
        clear A100
        have H' := iC.mk H
        clear H
        go_wp2_with (first | ((with_reducible refine iU (f := 44) rfl ?_); refine jJ (some 17) rfl rfl Try.func44 (by kernel_rfl) rfl #[] rfl (by (try simp only [List.map_toArray, List.map_cons, List.map_nil]); first | done | rfl | (simp only [List.length_drop, List.length_take]; rfl)) ?_; (with_reducible refine (spans_New.calls  t308 t309 _ A10.out).mono ?_); rintro e w11 ⟨v310, rfl, ho0, hb⟩; refine ⟨_, rfl, ?_⟩; have n0_ := iC.mk (Kd.R_lower ho0 (iJ hb_)); have n1_ := iC.mk (iK hb_ hb); clear HB; have HO311 := n0_; have HB := n1_; clear n0_ n1_; (try clear hb); (try clear hb2); (try clear hk); (try clear hi); (try clear ho0)) | ((with_reducible refine jC (N := 5) rfl ?_); (try (refine iW (by rfl) ?_; dsimp only)); refine jA ?hg (N := 5) ?hd (cs := #[.int .u32 0, .slice none 0 0]) (t := 42) ?hr ?_; (case hd => rfl); (case hg => rfl); (case hr => first | (go_simp; done) | (go_simp; rfl)); intro gb312 hg w12 hbox hb; have n0_ := iC.mk (Kd.R_below (by (with_reducible repeat (first | apply Kd.R_alloc | apply Kd.R_drewN | apply Kd.R_drew)); exact HO311.out) hb); have n1_ := iC.mk (iK hb_ hb); have n2_ := iC.mk (hbox); have n3_ := iC.mk ((by rw [hg]; exact (iJ hb_) : w.heap.size ≤ gb312)); have n4_ := iC.mk ((by rw [hg]; exact (iJ hb_) : w.heap.size ≤ gb312)); clear HO311; clear HB; have HO311 := n0_; have HB := n1_; have BK312 := n2_; have GW312 := n3_; have GE312 := n4_; clear n0_ n1_ n2_ n3_ n4_; clear hb hbox hg; have hcz13_0 : w12.cell? ⟨gb312, 0, none⟩ = some (.int .u32 0) := (iI BK312.out 0).trans rfl; have hcz13_1 : w12.cell? ⟨gb312, 1, none⟩ = some (.slice none 0 0) := (iI BK312.out 1).trans rfl; have hfz13_0 := iH BK312.out 0; have hfz13_1 := iH BK312.out 1; obtain ⟨Ao14, co14, eo14⟩ := Kd.R_slice HO311.out; subst eo14))
        go_loopg [6, 7] kj2 (fun kq v6 v7 w' => ∃ (x6_2 : Int) (x7_2 : Int), v6 = .int .i64 x6_2 ∧ v7 = .int .i64 x7_2 ∧ iC (stratumlaw12_SpansNew.l0 kq a0 l1 x6_2 x7_2 t308 t309 = some r) ∧ iC (kq ≤ kj2) ∧ iC (Kd.R k60 60 w' w.heap.size (fun _ => True) (.slice Ao14 t309.length co14) t309) ∧ iC (w'.heap[gb312]? = some (.cells #[.int .u32 t308, (.slice Ao14 t309.length co14)] 42 (0, 0))) ∧ iC (Below w.heap.size w w'))
        case atStart => exact ⟨(0), (0), (by first | rfl | (simp; done) | (simp [*]; done)), (by first | rfl | (simp; done) | (simp [*]; done)), H', ⟨Nat.le_refl _⟩, ⟨by (with_reducible repeat (first | apply Kd.R_alloc | apply Kd.R_drewN | apply Kd.R_drew)); exact Kd.R_mono (Kd.R_far (p := ⟨gb312, 1, none⟩) (Kd.R_far (p := ⟨gb312, 0, none⟩) (Kd.R_types HO311.out BK312.out (by decide)) (fun _ hk => hk.2) (.int .u32 t308)) (fun _ hk => hk.2) (.slice Ao14 t309.length co14)) (fun _ hk => trivial)⟩, ⟨by (with_reducible repeat (first | refine iM ?_ _ | refine iO ?_ | refine iL ?_ _)); refine jD (cs := #[.int .u32 t308, .slice none 0 0]) ?_ 1 _ rfl; (with_reducible repeat (first | refine iM ?_ _ | refine iO ?_ | refine iL ?_ _)); refine jD (cs := #[.int .u32 0, .slice none 0 0]) ?_ 0 _ rfl; (with_reducible repeat (first | refine iM ?_ _ | refine iO ?_ | refine iL ?_ _)); exact BK312.out⟩, ⟨by repeat (first | (with_reducible first | exact HB.out | apply iF | apply iD | apply iG | refine iE ?_ GE312.out) | exact HB.out)⟩⟩
        case round =>
          clear H'
          try clear c1
          try clear c2
          try clear p2
          try clear c4
          try clear c4b0
          try clear c4b1
          try clear c7
          try clear c13
          try clear hcz13_0
          try clear hcz13_1
          try clear hfz13_0
          try clear hfz13_1
          try clear p2
          obtain ⟨x6_2, x7_2, rfl, rfl, HA, HK2, HO_313001, BK312, HB⟩ := hrel
          cases gk with
          | zero => exact absurd HA.out (by simp [stratumlaw12_SpansNew.l0])
          | succ k2 =>
            have H := HA.out
            clear HA
            simp only [stratumlaw12_SpansNew.l0] at H
            by_cases c15 : x7_2 < (l1.length : Int)
            · rw [if_pos c15] at H
              have c15b0 : decide (x7_2 < (l1.length : Int)) = true := decide_eq_true c15
              clear c15
              by_cases c16 : 0 ≤ x7_2
              · rw [if_pos c16] at H
                have c16b0 : decide (0 ≤ x7_2) = true := decide_eq_true c16
                clear c16
                by_cases c17 : (((iV l1 x7_2).f0).length : Int) > 0
                · rw [if_pos c17] at H
                  have c17b0 : decide (0 < (((iV l1 x7_2).f0).length : Int)) = true := decide_eq_true c17
                  have c17b1 : decide (0 < ((iV l1 x7_2).f0).length) = true := decide_eq_true (by omega)
                  clear c17
                  by_cases c18 : 0 < (((iV l1 x7_2).f0).length : Int)
                  · rw [if_pos c18] at H
                    have c18b0 : decide (0 < (((iV l1 x7_2).f0).length : Int)) = true := decide_eq_true c18
                    have c18b1 : decide (0 < ((iV l1 x7_2).f0).length) = true := decide_eq_true (by omega)
                    clear c18
                    by_cases c19 : (rd ((iV l1 x7_2).f0) 0) ≥ 0
                    · rw [if_pos c19] at H
                      have c19b0 : decide (0 ≤ (rd ((iV l1 x7_2).f0) 0)) = true := decide_eq_true c19
                      clear c19
                      have H' := iC.mk H
                      clear H
                      have p313 : 0 ≤ (x7_2 : Int) := of_decide_eq_true asm_
                      have q313 : x7_2 < (l1.length : Int) := of_decide_eq_true asm_
                      obtain ⟨ad313, A313_0, c313_0, e313, hx313_0, hx313_1, hl313_0, hi313_0⟩ := kR HR1.out x7_2 p313 q313
                      cases e313
                      replace hx313_0 := (HB.out.cell (World.block_lt_of_cell? w _ hx313_0)).trans hx313_0
                      replace hx313_1 := (HB.out.cell (World.block_lt_of_cell? w _ hx313_1)).trans hx313_1
                      have HR313_0 := iC.mk hi313_0
                      have HC313_0 := iC.mk hl313_0
                      clear hi313_0 hl313_0
                      replace p313 := eq_true p313
                      replace q313 := eq_true q313
                      have p314 : 0 ≤ (x7_2 : Int) := of_decide_eq_true asm_
                      have q314 : x7_2 < (l1.length : Int) := of_decide_eq_true asm_
                      obtain ⟨ad314, A314_0, c314_0, e314, hx314_0, hx314_1, hl314_0, hi314_0⟩ := kR HR1.out x7_2 p314 q314
                      obtain rfl : ad313 = ad314 := (by injection e314)
                      replace hx314_0 := (HB.out.cell (World.block_lt_of_cell? w _ hx314_0)).trans hx314_0
                      replace hx314_1 := (HB.out.cell (World.block_lt_of_cell? w _ hx314_1)).trans hx314_1
                      have HR314_0 := iC.mk hi314_0
                      have HC314_0 := iC.mk hl314_0
                      clear hi314_0 hl314_0
                      replace p314 := eq_true p314
                      replace q314 := eq_true q314
                      have ea_ := Option.some.inj (hx313_0.symm.trans hx314_0)
                      injection ea_ with ea_ en_ ec_
                      subst ea_
                      subst ec_
                      clear en_
                      have p315 : 0 ≤ (0 : Int) := (by omega)
                      have q315 : 0 < (((iV l1 x7_2).f0).length : Int) := of_decide_eq_true asm_
                      obtain ⟨ad315, e315, hx315_0⟩ := Kd.at_int HR314_0.out 0 p315 q315
                      cases e315
                      have qi315 : (0 < ((iV l1 x7_2).f0).length) = True := eq_true (by omega)
                      (try rw [show ((0 : Int)).toNat = 0 from rfl] at hx315_0)
                      (try rw [Addr.add_zero'] at hx315_0)
                      replace hx315_0 := (HB.out.cell (World.block_lt_of_cell? w _ hx315_0)).trans hx315_0
                      replace p315 := eq_true p315
                      replace q315 := eq_true q315
                      go_wp2
                      go_roundg k2
                      case measure => have := HJ2.out; have := HK2.out; omega
                      case rel => exact ⟨(wrap64 (x6_2 + 1)), (wrap64 (x7_2 + 1)), (by first | rfl | (simp; done) | (simp [*]; done)), (by first | rfl | (simp; done) | (simp [*]; done)), H', ⟨by have := HJ2.out; have := HK2.out; omega⟩, ⟨by (with_reducible repeat (first | apply Kd.R_alloc | apply Kd.R_drewN | apply Kd.R_drew)); exact HO_313001.out⟩, ⟨bk_ BK312.out⟩, ⟨by repeat (first | (with_reducible first | exact HB.out | apply iF | apply iD | apply iG | refine iE ?_ GE312.out) | exact HB.out)⟩⟩
                    · rw [if_neg c19] at H
                      have c19b0 : decide (0 ≤ (rd ((iV l1 x7_2).f0) 0)) = false := decide_eq_false c19
                      clear c19
                      have H' := iC.mk H
                      clear H
                      have p313 : 0 ≤ (x7_2 : Int) := of_decide_eq_true asm_
                      have q313 : x7_2 < (l1.length : Int) := of_decide_eq_true asm_
                      obtain ⟨ad313, A313_0, c313_0, e313, hx313_0, hx313_1, hl313_0, hi313_0⟩ := kR HR1.out x7_2 p313 q313
                      cases e313
                      replace hx313_0 := (HB.out.cell (World.block_lt_of_cell? w _ hx313_0)).trans hx313_0
                      replace hx313_1 := (HB.out.cell (World.block_lt_of_cell? w _ hx313_1)).trans hx313_1
                      have HR313_0 := iC.mk hi313_0
                      have HC313_0 := iC.mk hl313_0
                      clear hi313_0 hl313_0
                      replace p313 := eq_true p313
                      replace q313 := eq_true q313
                      have p314 : 0 ≤ (x7_2 : Int) := of_decide_eq_true asm_
                      have q314 : x7_2 < (l1.length : Int) := of_decide_eq_true asm_
                      obtain ⟨ad314, A314_0, c314_0, e314, hx314_0, hx314_1, hl314_0, hi314_0⟩ := kR HR1.out x7_2 p314 q314
                      obtain rfl : ad313 = ad314 := (by injection e314)
                      replace hx314_0 := (HB.out.cell (World.block_lt_of_cell? w _ hx314_0)).trans hx314_0
                      replace hx314_1 := (HB.out.cell (World.block_lt_of_cell? w _ hx314_1)).trans hx314_1
                      have HR314_0 := iC.mk hi314_0
                      have HC314_0 := iC.mk hl314_0
                      clear hi314_0 hl314_0
                      replace p314 := eq_true p314
                      replace q314 := eq_true q314
                      have ea_ := Option.some.inj (hx313_0.symm.trans hx314_0)
                      injection ea_ with ea_ en_ ec_
                      subst ea_
                      subst ec_
                      clear en_
                      have p315 : 0 ≤ (0 : Int) := (by omega)
                      have q315 : 0 < (((iV l1 x7_2).f0).length : Int) := of_decide_eq_true asm_
                      obtain ⟨ad315, e315, hx315_0⟩ := Kd.at_int HR314_0.out 0 p315 q315
                      cases e315
                      have qi315 : (0 < ((iV l1 x7_2).f0).length) = True := eq_true (by omega)
                      (try rw [show ((0 : Int)).toNat = 0 from rfl] at hx315_0)
                      (try rw [Addr.add_zero'] at hx315_0)
                      replace hx315_0 := (HB.out.cell (World.block_lt_of_cell? w _ hx315_0)).trans hx315_0
                      replace p315 := eq_true p315
                      replace q315 := eq_true q315
                      go_wp2
                      go_roundg k2
                      case measure => have := HJ2.out; have := HK2.out; omega
                      case rel => exact ⟨(x6_2), (wrap64 (x7_2 + 1)), (by first | rfl | (simp; done) | (simp [*]; done)), (by first | rfl | (simp; done) | (simp [*]; done)), H', ⟨by have := HJ2.out; have := HK2.out; omega⟩, ⟨by (with_reducible repeat (first | apply Kd.R_alloc | apply Kd.R_drewN | apply Kd.R_drew)); exact HO_313001.out⟩, ⟨bk_ BK312.out⟩, ⟨by repeat (first | (with_reducible first | exact HB.out | apply iF | apply iD | apply iG | refine iE ?_ GE312.out) | exact HB.out)⟩⟩
                  · rw [if_neg c18] at H
                    exact absurd H (by simp)
                · rw [if_neg c17] at H
                  have c17b0 : decide (0 < (((iV l1 x7_2).f0).length : Int)) = false := decide_eq_false c17
                  have c17b1 : decide (0 < ((iV l1 x7_2).f0).length) = false := decide_eq_false (by omega)
                  clear c17
                  have H' := iC.mk H
                  clear H
                  have p313 : 0 ≤ (x7_2 : Int) := of_decide_eq_true asm_
                  have q313 : x7_2 < (l1.length : Int) := of_decide_eq_true asm_
                  obtain ⟨ad313, A313_0, c313_0, e313, hx313_0, hx313_1, hl313_0, hi313_0⟩ := kR HR1.out x7_2 p313 q313
                  cases e313
                  replace hx313_0 := (HB.out.cell (World.block_lt_of_cell? w _ hx313_0)).trans hx313_0
                  replace hx313_1 := (HB.out.cell (World.block_lt_of_cell? w _ hx313_1)).trans hx313_1
                  have HR313_0 := iC.mk hi313_0
                  have HC313_0 := iC.mk hl313_0
                  clear hi313_0 hl313_0
                  replace p313 := eq_true p313
                  replace q313 := eq_true q313
                  go_wp2
                  go_roundg k2
                  case measure => have := HJ2.out; have := HK2.out; omega
                  case rel => exact ⟨(x6_2), (wrap64 (x7_2 + 1)), (by first | rfl | (simp; done) | (simp [*]; done)), (by first | rfl | (simp; done) | (simp [*]; done)), H', ⟨by have := HJ2.out; have := HK2.out; omega⟩, ⟨by (with_reducible repeat (first | apply Kd.R_alloc | apply Kd.R_drewN | apply Kd.R_drew)); exact HO_313001.out⟩, ⟨bk_ BK312.out⟩, ⟨by repeat (first | (with_reducible first | exact HB.out | apply iF | apply iD | apply iG | refine iE ?_ GE312.out) | exact HB.out)⟩⟩
              · rw [if_neg c16] at H
                exact absurd H (by simp)
            · rw [if_neg c15] at H
              have c15b0 : decide (x7_2 < (l1.length : Int)) = false := decide_eq_false c15
              clear c15
              replace H := Option.bind_eq_some_iff.mp H
              obtain ⟨t316, A200, H⟩ := H
              replace H : (if t308 = 1 then ((spans_Find.f t308 t309 (wrap64 (a0))).bind fun t319 => (if t319 = 0 then ((spans_Find.f t308 t309 (-1)).bind fun t320 => (if t320 = (-1) then (if (t316.length : Int) = 1 then (if 0 < (t316.length : Int) then (if (rd t316 0) = 0 then ((spans_Parts.f k2 t308 t309 l1 0).bind fun t322 => (if (t322.length : Int) = x6_2 then ((spans_Parts.f k2 t308 t309 l1 1).bind fun t325 => (if (t325.length : Int) = 0 then ((spans_Sound.f k2 t308 t309 1 1).bind fun t328 => (some t328)) else (some false))) else (some false))) else (some false)) else (none)) else (some false)) else (some false))) else (some false))) else (some false)) = some r := H
              have A20 := iC.mk A200
              clear A200
              by_cases c21 : t308 = 1
              · rw [if_pos c21] at H
                have c21b0 : (t308 == 1) = true := beq_iff_eq.mpr c21
                have c21b1 : (t308 != 1) = false := bne_eq_false_iff_eq.mpr c21
                clear c21
                replace H := Option.bind_eq_some_iff.mp H
                obtain ⟨t319, A220, H⟩ := H
                replace H : (if t319 = 0 then ((spans_Find.f t308 t309 (-1)).bind fun t320 => (if t320 = (-1) then (if (t316.length : Int) = 1 then (if 0 < (t316.length : Int) then (if (rd t316 0) = 0 then ((spans_Parts.f k2 t308 t309 l1 0).bind fun t322 => (if (t322.length : Int) = x6_2 then ((spans_Parts.f k2 t308 t309 l1 1).bind fun t325 => (if (t325.length : Int) = 0 then ((spans_Sound.f k2 t308 t309 1 1).bind fun t328 => (some t328)) else (some false))) else (some false))) else (some false)) else (none)) else (some false)) else (some false))) else (some false)) = some r := H
                have A22 := iC.mk A220
                clear A220
                by_cases c23 : t319 = 0
                · rw [if_pos c23] at H
                  have c23b0 : (t319 == 0) = true := beq_iff_eq.mpr c23
                  have c23b1 : (t319 != 0) = false := bne_eq_false_iff_eq.mpr c23
                  clear c23
                  replace H := Option.bind_eq_some_iff.mp H
                  obtain ⟨t320, A240, H⟩ := H
                  replace H : (if t320 = (-1) then (if (t316.length : Int) = 1 then (if 0 < (t316.length : Int) then (if (rd t316 0) = 0 then ((spans_Parts.f k2 t308 t309 l1 0).bind fun t322 => (if (t322.length : Int) = x6_2 then ((spans_Parts.f k2 t308 t309 l1 1).bind fun t325 => (if (t325.length : Int) = 0 then ((spans_Sound.f k2 t308 t309 1 1).bind fun t328 => (some t328)) else (some false))) else (some false))) else (some false)) else (none)) else (some false)) else (some false)) = some r := H
                  have A24 := iC.mk A240
                  clear A240
                  by_cases c25 : t320 = (-1)
                  · rw [if_pos c25] at H
                    have c25b0 : (t320 == (-1)) = true := beq_iff_eq.mpr c25
                    have c25b1 : (t320 != (-1)) = false := bne_eq_false_iff_eq.mpr c25
                    clear c25
                    by_cases c26 : (t316.length : Int) = 1
                    · rw [if_pos c26] at H
                      have c26b0 : ((t316.length : Int) == 1) = true := beq_iff_eq.mpr c26
                      have c26b1 : ((t316.length : Int) != 1) = false := bne_eq_false_iff_eq.mpr c26
                      clear c26
                      by_cases c27 : 0 < (t316.length : Int)
                      · rw [if_pos c27] at H
                        have c27b0 : decide (0 < (t316.length : Int)) = true := decide_eq_true c27
                        have c27b1 : decide (0 < t316.length) = true := decide_eq_true (by omega)
                        clear c27
                        by_cases c28 : (rd t316 0) = 0
                        · rw [if_pos c28] at H
                          have c28b0 : ((rd t316 0) == 0) = true := beq_iff_eq.mpr c28
                          have c28b1 : ((rd t316 0) != 0) = false := bne_eq_false_iff_eq.mpr c28
                          clear c28
                          replace H := Option.bind_eq_some_iff.mp H
                          obtain ⟨t322, A290, H⟩ := H
                          replace H : (if (t322.length : Int) = x6_2 then ((spans_Parts.f k2 t308 t309 l1 1).bind fun t325 => (if (t325.length : Int) = 0 then ((spans_Sound.f k2 t308 t309 1 1).bind fun t328 => (some t328)) else (some false))) else (some false)) = some r := H
                          have A29 := iC.mk A290
                          clear A290
                          by_cases c30 : (t322.length : Int) = x6_2
                          · rw [if_pos c30] at H
                            have c30b0 : ((t322.length : Int) == x6_2) = true := beq_iff_eq.mpr c30
                            have c30b1 : ((t322.length : Int) != x6_2) = false := bne_eq_false_iff_eq.mpr c30
                            clear c30
                            replace H := Option.bind_eq_some_iff.mp H
                            obtain ⟨t325, A310, H⟩ := H
                            replace H : (if (t325.length : Int) = 0 then ((spans_Sound.f k2 t308 t309 1 1).bind fun t328 => (some t328)) else (some false)) = some r := H
                            have A31 := iC.mk A310
                            clear A310
                            by_cases c32 : (t325.length : Int) = 0
                            · rw [if_pos c32] at H
                              have c32b0 : ((t325.length : Int) == 0) = true := beq_iff_eq.mpr c32
                              have c32b1 : ((t325.length : Int) != 0) = false := bne_eq_false_iff_eq.mpr c32
                              clear c32
                              replace H := Option.bind_eq_some_iff.mp H
                              obtain ⟨t328, A330, H⟩ := H
                              replace H : (some t328) = some r := H
                              have A33 := iC.mk A330
                              clear A330
                              obtain rfl := Option.some.inj H
                              have hcz34_0 : wr.cell? ⟨gb312, 0, none⟩ = some (.int .u32 t308) := (iI BK312.out 0).trans rfl
                              have hcz34_1 : wr.cell? ⟨gb312, 1, none⟩ = some (.slice Ao14 t309.length co14) := (iI BK312.out 1).trans rfl
                              have hfz34_0 := iH BK312.out 0
                              have hfz34_1 := iH BK312.out 1
                              go_wp2_with (first | ((with_reducible refine iU (f := 28) rfl ?_); refine jJ (some 51) rfl rfl Try.func28 (by kernel_rfl) rfl #[.agg #[.int .u32 t308, .slice Ao14 t309.length co14], .int .i64 (wrap64 (Int.tmod a0 1000)), .int .i64 (wrap64 ((wrap64 (Int.tmod a0 1000)) + 1))] rfl (by (try simp only [List.map_toArray, List.map_cons, List.map_nil]); first | done | rfl | (simp only [List.length_drop, List.length_take]; rfl)) ?_; (with_reducible refine (spans_Nodes.calls t308 _ _ t309 (wrap64 (Int.tmod a0 1000)) (wrap64 ((wrap64 (Int.tmod a0 1000)) + 1)) t316 _ ?side1 ?side2 A20.out).mono ?_); (case side1 => repeat (first | exact (Kd.R_reads' HO_313001.out).2.2 | (with_reducible refine Kd.C_alloc ?_ _) | (with_reducible refine Kd.C_drewN ?_ _) | (with_reducible refine Kd.C_drew ?_))); (case side2 => exact (Kd.R_reads' HO_313001.out).2.1); rintro e w35 ⟨v317, rfl, ho0, hb⟩; refine ⟨_, rfl, ?_⟩; have n0_ := iC.mk (Kd.R_below (by (with_reducible repeat (first | apply Kd.R_alloc | apply Kd.R_drewN | apply Kd.R_drew)); exact HO_313001.out) hb); have n1_ := iC.mk (Kd.R_lower ho0 (iJ (by repeat (first | (with_reducible first | exact HB.out | apply iF | apply iD | apply iG | refine iE ?_ GE312.out) | exact HB.out)))); have n2_ := iC.mk (iP (g := gb312) (o := .cells #[.int .u32 t308, .slice Ao14 t309.length co14] 42 (0, 0)) (bk_ BK312.out) hb); have n3_ := iC.mk (iK (by repeat (first | (with_reducible first | exact HB.out | apply iF | apply iD | apply iG | refine iE ?_ GE312.out) | exact HB.out)) hb); clear HO_313001; clear BK312; clear HB; have HO_313001 := n0_; have HO318 := n1_; have BK312 := n2_; have HB := n3_; clear n0_ n1_ n2_ n3_; (try clear hb); (try clear hb2); (try clear hk); (try clear hi); (try clear ho0); have hcz36_0 : w35.cell? ⟨gb312, 0, none⟩ = some (.int .u32 t308) := (iI BK312.out 0).trans rfl; have hcz36_1 : w35.cell? ⟨gb312, 1, none⟩ = some (.slice Ao14 t309.length co14) := (iI BK312.out 1).trans rfl; have hfz36_0 := iH BK312.out 0; have hfz36_1 := iH BK312.out 1) | (go_at_call 35; (with_reducible refine (spans_Find.calls t308 _ _ t309 (wrap64 (a0)) t319 _ ?side1 ?side2 A22.out).mono ?_); (case side1 => repeat (first | exact (Kd.R_reads' HO_313001.out).2.2 | (with_reducible refine Kd.C_alloc ?_ _) | (with_reducible refine Kd.C_drewN ?_ _) | (with_reducible refine Kd.C_drew ?_))); (case side2 => exact (Kd.R_reads' HO_313001.out).2.1); rintro e w37 ⟨rfl, hb⟩; have n0_ := iC.mk (Kd.R_below (by (with_reducible repeat (first | apply Kd.R_alloc | apply Kd.R_drewN | apply Kd.R_drew)); exact HO_313001.out) hb); have n1_ := iC.mk (Kd.R_below (by (with_reducible repeat (first | apply Kd.R_alloc | apply Kd.R_drewN | apply Kd.R_drew)); exact HO318.out) hb); have n2_ := iC.mk (iP (g := gb312) (o := .cells #[.int .u32 t308, .slice Ao14 t309.length co14] 42 (0, 0)) (bk_ BK312.out) hb); have n3_ := iC.mk (iK (by repeat (first | (with_reducible first | exact HB.out | apply iF | apply iD | apply iG | refine iE ?_ GE312.out) | exact HB.out)) hb); clear HO_313001; clear HO318; clear BK312; clear HB; have HO_313001 := n0_; have HO318 := n1_; have BK312 := n2_; have HB := n3_; clear n0_ n1_ n2_ n3_; (try clear hb); (try clear hb2); (try clear hk); (try clear hi); have hcz38_0 : w37.cell? ⟨gb312, 0, none⟩ = some (.int .u32 t308) := (iI BK312.out 0).trans rfl; have hcz38_1 : w37.cell? ⟨gb312, 1, none⟩ = some (.slice Ao14 t309.length co14) := (iI BK312.out 1).trans rfl; have hfz38_0 := iH BK312.out 0; have hfz38_1 := iH BK312.out 1) | (go_at_call 35; (with_reducible refine (spans_Find.calls t308 _ _ t309 (-1) t320 _ ?side1 ?side2 A24.out).mono ?_); (case side1 => repeat (first | exact (Kd.R_reads' HO_313001.out).2.2 | (with_reducible refine Kd.C_alloc ?_ _) | (with_reducible refine Kd.C_drewN ?_ _) | (with_reducible refine Kd.C_drew ?_))); (case side2 => exact (Kd.R_reads' HO_313001.out).2.1); rintro e w39 ⟨rfl, hb⟩; have n0_ := iC.mk (Kd.R_below (by (with_reducible repeat (first | apply Kd.R_alloc | apply Kd.R_drewN | apply Kd.R_drew)); exact HO_313001.out) hb); have n1_ := iC.mk (Kd.R_below (by (with_reducible repeat (first | apply Kd.R_alloc | apply Kd.R_drewN | apply Kd.R_drew)); exact HO318.out) hb); have n2_ := iC.mk (iP (g := gb312) (o := .cells #[.int .u32 t308, .slice Ao14 t309.length co14] 42 (0, 0)) (bk_ BK312.out) hb); have n3_ := iC.mk (iK (by repeat (first | (with_reducible first | exact HB.out | apply iF | apply iD | apply iG | refine iE ?_ GE312.out) | exact HB.out)) hb); clear HO_313001; clear HO318; clear BK312; clear HB; have HO_313001 := n0_; have HO318 := n1_; have BK312 := n2_; have HB := n3_; clear n0_ n1_ n2_ n3_; (try clear hb); (try clear hb2); (try clear hk); (try clear hi); obtain ⟨Ao40, co40, eo40⟩ := Kd.R_slice HO318.out; subst eo40; have p321 : 0 ≤ (0 : Int) := (by omega); have q321 : 0 < (t316.length : Int) := of_decide_eq_true asm_; obtain ⟨ad321, e321, hx321_0⟩ := Kd.at_int (Kd.R_reads' HO318.out).2.2 0 p321 q321; cases e321; have qi321 : (0 < t316.length) = True := eq_true (by omega); (try rw [show ((0 : Int)).toNat = 0 from rfl] at hx321_0); (try rw [Addr.add_zero'] at hx321_0); replace p321 := eq_true p321; replace q321 := eq_true q321; have hcz41_0 : w39.cell? ⟨gb312, 0, none⟩ = some (.int .u32 t308) := (iI BK312.out 0).trans rfl; have hcz41_1 : w39.cell? ⟨gb312, 1, none⟩ = some (.slice Ao14 t309.length co14) := (iI BK312.out 1).trans rfl; have hfz41_0 := iH BK312.out 0; have hfz41_1 := iH BK312.out 1) | (go_at_call 39; (with_reducible refine (spans_Parts.calls k2 t308 _ _ t309 _ _ l1 0 t322 _ ?side1 ?side2 ?side3 ?side4 A29.out).mono ?_); (case side1 => repeat (first | exact (Kd.R_reads' HO_313001.out).2.2 | (with_reducible refine Kd.C_alloc ?_ _) | (with_reducible refine Kd.C_drewN ?_ _) | (with_reducible refine Kd.C_drew ?_))); (case side2 => exact (Kd.R_reads' HO_313001.out).2.1); (case side3 => repeat (first | exact (Kd.C_below HR1.out HB.out) | (with_reducible refine Kd.C_alloc ?_ _) | (with_reducible refine Kd.C_drewN ?_ _) | (with_reducible refine Kd.C_drew ?_))); (case side4 => exact HC1.out); rintro e w42 ⟨v323, rfl, ho0, hb⟩; have n0_ := iC.mk (Kd.R_below (by (with_reducible repeat (first | apply Kd.R_alloc | apply Kd.R_drewN | apply Kd.R_drew)); exact HO_313001.out) hb); have n1_ := iC.mk (Kd.R_below (by (with_reducible repeat (first | apply Kd.R_alloc | apply Kd.R_drewN | apply Kd.R_drew)); exact HO318.out) hb); have n2_ := iC.mk (Kd.R_lower (Kd.R_new' ho0 (Kd.R_lt (by (with_reducible repeat (first | apply Kd.R_alloc | apply Kd.R_drewN | apply Kd.R_drew)); exact HO318.out))) (iJ (by repeat (first | (with_reducible first | exact HB.out | apply iF | apply iD | apply iG | refine iE ?_ GE312.out) | exact HB.out)))); have n3_ := iC.mk (iP (g := gb312) (o := .cells #[.int .u32 t308, .slice Ao14 t309.length co14] 42 (0, 0)) (bk_ BK312.out) hb); have n4_ := iC.mk (iK (by repeat (first | (with_reducible first | exact HB.out | apply iF | apply iD | apply iG | refine iE ?_ GE312.out) | exact HB.out)) hb); clear HO_313001; clear HO318; clear BK312; clear HB; have HO_313001 := n0_; have HO318 := n1_; have HO324 := n2_; have BK312 := n3_; have HB := n4_; clear n0_ n1_ n2_ n3_ n4_; (try clear hb); (try clear hb2); (try clear hk); (try clear hi); (try clear ho0); obtain ⟨Ao43, co43, eo43⟩ := Kd.R_slice HO324.out; subst eo43; have hcz44_0 : w42.cell? ⟨gb312, 0, none⟩ = some (.int .u32 t308) := (iI BK312.out 0).trans rfl; have hcz44_1 : w42.cell? ⟨gb312, 1, none⟩ = some (.slice Ao14 t309.length co14) := (iI BK312.out 1).trans rfl; have hfz44_0 := iH BK312.out 0; have hfz44_1 := iH BK312.out 1) | (go_at_call 39; (with_reducible refine (spans_Parts.calls k2 t308 _ _ t309 _ _ l1 1 t325 _ ?side1 ?side2 ?side3 ?side4 A31.out).mono ?_); (case side1 => repeat (first | exact (Kd.R_reads' HO_313001.out).2.2 | (with_reducible refine Kd.C_alloc ?_ _) | (with_reducible refine Kd.C_drewN ?_ _) | (with_reducible refine Kd.C_drew ?_))); (case side2 => exact (Kd.R_reads' HO_313001.out).2.1); (case side3 => repeat (first | exact (Kd.C_below HR1.out HB.out) | (with_reducible refine Kd.C_alloc ?_ _) | (with_reducible refine Kd.C_drewN ?_ _) | (with_reducible refine Kd.C_drew ?_))); (case side4 => exact HC1.out); rintro e w45 ⟨v326, rfl, ho0, hb⟩; have n0_ := iC.mk (Kd.R_below (by (with_reducible repeat (first | apply Kd.R_alloc | apply Kd.R_drewN | apply Kd.R_drew)); exact HO_313001.out) hb); have n1_ := iC.mk (Kd.R_below (by (with_reducible repeat (first | apply Kd.R_alloc | apply Kd.R_drewN | apply Kd.R_drew)); exact HO318.out) hb); have n2_ := iC.mk (Kd.R_elder' (by (with_reducible repeat (first | apply Kd.R_alloc | apply Kd.R_drewN | apply Kd.R_drew)); exact HO324.out) (Kd.R_base ho0) hb); have n3_ := iC.mk (Kd.R_lower (Kd.R_new' (Kd.R_new' ho0 (Kd.R_lt (by (with_reducible repeat (first | apply Kd.R_alloc | apply Kd.R_drewN | apply Kd.R_drew)); exact HO318.out))) (Kd.R_lt (by (with_reducible repeat (first | apply Kd.R_alloc | apply Kd.R_drewN | apply Kd.R_drew)); exact HO324.out))) (iJ (by repeat (first | (with_reducible first | exact HB.out | apply iF | apply iD | apply iG | refine iE ?_ GE312.out) | exact HB.out)))); have n4_ := iC.mk (iP (g := gb312) (o := .cells #[.int .u32 t308, .slice Ao14 t309.length co14] 42 (0, 0)) (bk_ BK312.out) hb); have n5_ := iC.mk (iK (by repeat (first | (with_reducible first | exact HB.out | apply iF | apply iD | apply iG | refine iE ?_ GE312.out) | exact HB.out)) hb); clear HO_313001; clear HO318; clear HO324; clear BK312; clear HB; have HO_313001 := n0_; have HO318 := n1_; have HO324 := n2_; have HO327 := n3_; have BK312 := n4_; have HB := n5_; clear n0_ n1_ n2_ n3_ n4_ n5_; (try clear hb); (try clear hb2); (try clear hk); (try clear hi); (try clear ho0); obtain ⟨Ao46, co46, eo46⟩ := Kd.R_slice HO327.out; subst eo46; have hcz47_0 : w45.cell? ⟨gb312, 0, none⟩ = some (.int .u32 t308) := (iI BK312.out 0).trans rfl; have hcz47_1 : w45.cell? ⟨gb312, 1, none⟩ = some (.slice Ao14 t309.length co14) := (iI BK312.out 1).trans rfl; have hfz47_0 := iH BK312.out 0; have hfz47_1 := iH BK312.out 1) | (go_at_call 33; (with_reducible refine (spans_Sound.calls k2 t308 _ _ t309 1 1 t328 _ ?side1 ?side2 A33.out).mono ?_); (case side1 => repeat (first | exact (Kd.R_reads' HO_313001.out).2.2 | (with_reducible refine Kd.C_alloc ?_ _) | (with_reducible refine Kd.C_drewN ?_ _) | (with_reducible refine Kd.C_drew ?_))); (case side2 => exact (Kd.R_reads' HO_313001.out).2.1); rintro e w48 ⟨rfl, hb⟩; have n0_ := iC.mk (Kd.R_below (by (with_reducible repeat (first | apply Kd.R_alloc | apply Kd.R_drewN | apply Kd.R_drew)); exact HO_313001.out) hb); have n1_ := iC.mk (Kd.R_below (by (with_reducible repeat (first | apply Kd.R_alloc | apply Kd.R_drewN | apply Kd.R_drew)); exact HO318.out) hb); have n2_ := iC.mk (Kd.R_below (by (with_reducible repeat (first | apply Kd.R_alloc | apply Kd.R_drewN | apply Kd.R_drew)); exact HO324.out) hb); have n3_ := iC.mk (Kd.R_below (by (with_reducible repeat (first | apply Kd.R_alloc | apply Kd.R_drewN | apply Kd.R_drew)); exact HO327.out) hb); have n4_ := iC.mk (iP (g := gb312) (o := .cells #[.int .u32 t308, .slice Ao14 t309.length co14] 42 (0, 0)) (bk_ BK312.out) hb); have n5_ := iC.mk (iK (by repeat (first | (with_reducible first | exact HB.out | apply iF | apply iD | apply iG | refine iE ?_ GE312.out) | exact HB.out)) hb); clear HO_313001; clear HO318; clear HO324; clear HO327; clear BK312; clear HB; have HO_313001 := n0_; have HO318 := n1_; have HO324 := n2_; have HO327 := n3_; have BK312 := n4_; have HB := n5_; clear n0_ n1_ n2_ n3_ n4_ n5_; (try clear hb); (try clear hb2); (try clear hk); (try clear hi)))
                              go_ret
                              exact ⟨by first | rfl | (simp [iR, iQ] <;> rfl) | (simp [*, iR, iQ] <;> rfl), by repeat (first | (with_reducible first | exact HB.out | apply iF | apply iD | apply iG | refine iE ?_ GE312.out) | exact HB.out)⟩
                            · rw [if_neg c32] at H
                              have c32b0 : ((t325.length : Int) == 0) = false := beq_eq_false_iff_ne.mpr c32
                              have c32b1 : ((t325.length : Int) != 0) = true := bne_iff_ne.mpr c32
                              have c32b2 : ¬ (t325 = []) := fun h_ => c32 (by rw [h_]; rfl)
                              obtain rfl := Option.some.inj H
                              have hcz49_0 : wr.cell? ⟨gb312, 0, none⟩ = some (.int .u32 t308) := (iI BK312.out 0).trans rfl
                              have hcz49_1 : wr.cell? ⟨gb312, 1, none⟩ = some (.slice Ao14 t309.length co14) := (iI BK312.out 1).trans rfl
                              have hfz49_0 := iH BK312.out 0
                              have hfz49_1 := iH BK312.out 1
                              go_wp2_with (first | ((with_reducible refine iU (f := 28) rfl ?_); refine jJ (some 51) rfl rfl Try.func28 (by kernel_rfl) rfl #[.agg #[.int .u32 t308, .slice Ao14 t309.length co14], .int .i64 (wrap64 (Int.tmod a0 1000)), .int .i64 (wrap64 ((wrap64 (Int.tmod a0 1000)) + 1))] rfl (by (try simp only [List.map_toArray, List.map_cons, List.map_nil]); first | done | rfl | (simp only [List.length_drop, List.length_take]; rfl)) ?_; (with_reducible refine (spans_Nodes.calls t308 _ _ t309 (wrap64 (Int.tmod a0 1000)) (wrap64 ((wrap64 (Int.tmod a0 1000)) + 1)) t316 _ ?side1 ?side2 A20.out).mono ?_); (case side1 => repeat (first | exact (Kd.R_reads' HO_313001.out).2.2 | (with_reducible refine Kd.C_alloc ?_ _) | (with_reducible refine Kd.C_drewN ?_ _) | (with_reducible refine Kd.C_drew ?_))); (case side2 => exact (Kd.R_reads' HO_313001.out).2.1); rintro e w50 ⟨v317, rfl, ho0, hb⟩; refine ⟨_, rfl, ?_⟩; have n0_ := iC.mk (Kd.R_below (by (with_reducible repeat (first | apply Kd.R_alloc | apply Kd.R_drewN | apply Kd.R_drew)); exact HO_313001.out) hb); have n1_ := iC.mk (Kd.R_lower ho0 (iJ (by repeat (first | (with_reducible first | exact HB.out | apply iF | apply iD | apply iG | refine iE ?_ GE312.out) | exact HB.out)))); have n2_ := iC.mk (iP (g := gb312) (o := .cells #[.int .u32 t308, .slice Ao14 t309.length co14] 42 (0, 0)) (bk_ BK312.out) hb); have n3_ := iC.mk (iK (by repeat (first | (with_reducible first | exact HB.out | apply iF | apply iD | apply iG | refine iE ?_ GE312.out) | exact HB.out)) hb); clear HO_313001; clear BK312; clear HB; have HO_313001 := n0_; have HO318 := n1_; have BK312 := n2_; have HB := n3_; clear n0_ n1_ n2_ n3_; (try clear hb); (try clear hb2); (try clear hk); (try clear hi); (try clear ho0); have hcz51_0 : w50.cell? ⟨gb312, 0, none⟩ = some (.int .u32 t308) := (iI BK312.out 0).trans rfl; have hcz51_1 : w50.cell? ⟨gb312, 1, none⟩ = some (.slice Ao14 t309.length co14) := (iI BK312.out 1).trans rfl; have hfz51_0 := iH BK312.out 0; have hfz51_1 := iH BK312.out 1) | (go_at_call 35; (with_reducible refine (spans_Find.calls t308 _ _ t309 (wrap64 (a0)) t319 _ ?side1 ?side2 A22.out).mono ?_); (case side1 => repeat (first | exact (Kd.R_reads' HO_313001.out).2.2 | (with_reducible refine Kd.C_alloc ?_ _) | (with_reducible refine Kd.C_drewN ?_ _) | (with_reducible refine Kd.C_drew ?_))); (case side2 => exact (Kd.R_reads' HO_313001.out).2.1); rintro e w52 ⟨rfl, hb⟩; have n0_ := iC.mk (Kd.R_below (by (with_reducible repeat (first | apply Kd.R_alloc | apply Kd.R_drewN | apply Kd.R_drew)); exact HO_313001.out) hb); have n1_ := iC.mk (Kd.R_below (by (with_reducible repeat (first | apply Kd.R_alloc | apply Kd.R_drewN | apply Kd.R_drew)); exact HO318.out) hb); have n2_ := iC.mk (iP (g := gb312) (o := .cells #[.int .u32 t308, .slice Ao14 t309.length co14] 42 (0, 0)) (bk_ BK312.out) hb); have n3_ := iC.mk (iK (by repeat (first | (with_reducible first | exact HB.out | apply iF | apply iD | apply iG | refine iE ?_ GE312.out) | exact HB.out)) hb); clear HO_313001; clear HO318; clear BK312; clear HB; have HO_313001 := n0_; have HO318 := n1_; have BK312 := n2_; have HB := n3_; clear n0_ n1_ n2_ n3_; (try clear hb); (try clear hb2); (try clear hk); (try clear hi); have hcz53_0 : w52.cell? ⟨gb312, 0, none⟩ = some (.int .u32 t308) := (iI BK312.out 0).trans rfl; have hcz53_1 : w52.cell? ⟨gb312, 1, none⟩ = some (.slice Ao14 t309.length co14) := (iI BK312.out 1).trans rfl; have hfz53_0 := iH BK312.out 0; have hfz53_1 := iH BK312.out 1) | (go_at_call 35; (with_reducible refine (spans_Find.calls t308 _ _ t309 (-1) t320 _ ?side1 ?side2 A24.out).mono ?_); (case side1 => repeat (first | exact (Kd.R_reads' HO_313001.out).2.2 | (with_reducible refine Kd.C_alloc ?_ _) | (with_reducible refine Kd.C_drewN ?_ _) | (with_reducible refine Kd.C_drew ?_))); (case side2 => exact (Kd.R_reads' HO_313001.out).2.1); rintro e w54 ⟨rfl, hb⟩; have n0_ := iC.mk (Kd.R_below (by (with_reducible repeat (first | apply Kd.R_alloc | apply Kd.R_drewN | apply Kd.R_drew)); exact HO_313001.out) hb); have n1_ := iC.mk (Kd.R_below (by (with_reducible repeat (first | apply Kd.R_alloc | apply Kd.R_drewN | apply Kd.R_drew)); exact HO318.out) hb); have n2_ := iC.mk (iP (g := gb312) (o := .cells #[.int .u32 t308, .slice Ao14 t309.length co14] 42 (0, 0)) (bk_ BK312.out) hb); have n3_ := iC.mk (iK (by repeat (first | (with_reducible first | exact HB.out | apply iF | apply iD | apply iG | refine iE ?_ GE312.out) | exact HB.out)) hb); clear HO_313001; clear HO318; clear BK312; clear HB; have HO_313001 := n0_; have HO318 := n1_; have BK312 := n2_; have HB := n3_; clear n0_ n1_ n2_ n3_; (try clear hb); (try clear hb2); (try clear hk); (try clear hi); obtain ⟨Ao55, co55, eo55⟩ := Kd.R_slice HO318.out; subst eo55; have p321 : 0 ≤ (0 : Int) := (by omega); have q321 : 0 < (t316.length : Int) := of_decide_eq_true asm_; obtain ⟨ad321, e321, hx321_0⟩ := Kd.at_int (Kd.R_reads' HO318.out).2.2 0 p321 q321; cases e321; have qi321 : (0 < t316.length) = True := eq_true (by omega); (try rw [show ((0 : Int)).toNat = 0 from rfl] at hx321_0); (try rw [Addr.add_zero'] at hx321_0); replace p321 := eq_true p321; replace q321 := eq_true q321; have hcz56_0 : w54.cell? ⟨gb312, 0, none⟩ = some (.int .u32 t308) := (iI BK312.out 0).trans rfl; have hcz56_1 : w54.cell? ⟨gb312, 1, none⟩ = some (.slice Ao14 t309.length co14) := (iI BK312.out 1).trans rfl; have hfz56_0 := iH BK312.out 0; have hfz56_1 := iH BK312.out 1) | (go_at_call 39; (with_reducible refine (spans_Parts.calls k2 t308 _ _ t309 _ _ l1 0 t322 _ ?side1 ?side2 ?side3 ?side4 A29.out).mono ?_); (case side1 => repeat (first | exact (Kd.R_reads' HO_313001.out).2.2 | (with_reducible refine Kd.C_alloc ?_ _) | (with_reducible refine Kd.C_drewN ?_ _) | (with_reducible refine Kd.C_drew ?_))); (case side2 => exact (Kd.R_reads' HO_313001.out).2.1); (case side3 => repeat (first | exact (Kd.C_below HR1.out HB.out) | (with_reducible refine Kd.C_alloc ?_ _) | (with_reducible refine Kd.C_drewN ?_ _) | (with_reducible refine Kd.C_drew ?_))); (case side4 => exact HC1.out); rintro e w57 ⟨v323, rfl, ho0, hb⟩; have n0_ := iC.mk (Kd.R_below (by (with_reducible repeat (first | apply Kd.R_alloc | apply Kd.R_drewN | apply Kd.R_drew)); exact HO_313001.out) hb); have n1_ := iC.mk (Kd.R_below (by (with_reducible repeat (first | apply Kd.R_alloc | apply Kd.R_drewN | apply Kd.R_drew)); exact HO318.out) hb); have n2_ := iC.mk (Kd.R_lower (Kd.R_new' ho0 (Kd.R_lt (by (with_reducible repeat (first | apply Kd.R_alloc | apply Kd.R_drewN | apply Kd.R_drew)); exact HO318.out))) (iJ (by repeat (first | (with_reducible first | exact HB.out | apply iF | apply iD | apply iG | refine iE ?_ GE312.out) | exact HB.out)))); have n3_ := iC.mk (iP (g := gb312) (o := .cells #[.int .u32 t308, .slice Ao14 t309.length co14] 42 (0, 0)) (bk_ BK312.out) hb); have n4_ := iC.mk (iK (by repeat (first | (with_reducible first | exact HB.out | apply iF | apply iD | apply iG | refine iE ?_ GE312.out) | exact HB.out)) hb); clear HO_313001; clear HO318; clear BK312; clear HB; have HO_313001 := n0_; have HO318 := n1_; have HO324 := n2_; have BK312 := n3_; have HB := n4_; clear n0_ n1_ n2_ n3_ n4_; (try clear hb); (try clear hb2); (try clear hk); (try clear hi); (try clear ho0); obtain ⟨Ao58, co58, eo58⟩ := Kd.R_slice HO324.out; subst eo58; have hcz59_0 : w57.cell? ⟨gb312, 0, none⟩ = some (.int .u32 t308) := (iI BK312.out 0).trans rfl; have hcz59_1 : w57.cell? ⟨gb312, 1, none⟩ = some (.slice Ao14 t309.length co14) := (iI BK312.out 1).trans rfl; have hfz59_0 := iH BK312.out 0; have hfz59_1 := iH BK312.out 1) | (go_at_call 39; (with_reducible refine (spans_Parts.calls k2 t308 _ _ t309 _ _ l1 1 t325 _ ?side1 ?side2 ?side3 ?side4 A31.out).mono ?_); (case side1 => repeat (first | exact (Kd.R_reads' HO_313001.out).2.2 | (with_reducible refine Kd.C_alloc ?_ _) | (with_reducible refine Kd.C_drewN ?_ _) | (with_reducible refine Kd.C_drew ?_))); (case side2 => exact (Kd.R_reads' HO_313001.out).2.1); (case side3 => repeat (first | exact (Kd.C_below HR1.out HB.out) | (with_reducible refine Kd.C_alloc ?_ _) | (with_reducible refine Kd.C_drewN ?_ _) | (with_reducible refine Kd.C_drew ?_))); (case side4 => exact HC1.out); rintro e w60 ⟨v326, rfl, ho0, hb⟩; have n0_ := iC.mk (Kd.R_below (by (with_reducible repeat (first | apply Kd.R_alloc | apply Kd.R_drewN | apply Kd.R_drew)); exact HO_313001.out) hb); have n1_ := iC.mk (Kd.R_below (by (with_reducible repeat (first | apply Kd.R_alloc | apply Kd.R_drewN | apply Kd.R_drew)); exact HO318.out) hb); have n2_ := iC.mk (Kd.R_elder' (by (with_reducible repeat (first | apply Kd.R_alloc | apply Kd.R_drewN | apply Kd.R_drew)); exact HO324.out) (Kd.R_base ho0) hb); have n3_ := iC.mk (Kd.R_lower (Kd.R_new' (Kd.R_new' ho0 (Kd.R_lt (by (with_reducible repeat (first | apply Kd.R_alloc | apply Kd.R_drewN | apply Kd.R_drew)); exact HO318.out))) (Kd.R_lt (by (with_reducible repeat (first | apply Kd.R_alloc | apply Kd.R_drewN | apply Kd.R_drew)); exact HO324.out))) (iJ (by repeat (first | (with_reducible first | exact HB.out | apply iF | apply iD | apply iG | refine iE ?_ GE312.out) | exact HB.out)))); have n4_ := iC.mk (iP (g := gb312) (o := .cells #[.int .u32 t308, .slice Ao14 t309.length co14] 42 (0, 0)) (bk_ BK312.out) hb); have n5_ := iC.mk (iK (by repeat (first | (with_reducible first | exact HB.out | apply iF | apply iD | apply iG | refine iE ?_ GE312.out) | exact HB.out)) hb); clear HO_313001; clear HO318; clear HO324; clear BK312; clear HB; have HO_313001 := n0_; have HO318 := n1_; have HO324 := n2_; have HO327 := n3_; have BK312 := n4_; have HB := n5_; clear n0_ n1_ n2_ n3_ n4_ n5_; (try clear hb); (try clear hb2); (try clear hk); (try clear hi); (try clear ho0); obtain ⟨Ao61, co61, eo61⟩ := Kd.R_slice HO327.out; subst eo61))
                              go_ret
                              exact ⟨by first | rfl | (simp [iR, iQ] <;> rfl) | (simp [*, iR, iQ] <;> rfl), by repeat (first | (with_reducible first | exact HB.out | apply iF | apply iD | apply iG | refine iE ?_ GE312.out) | exact HB.out)⟩
                          · rw [if_neg c30] at H
                            have c30b0 : ((t322.length : Int) == x6_2) = false := beq_eq_false_iff_ne.mpr c30
                            have c30b1 : ((t322.length : Int) != x6_2) = true := bne_iff_ne.mpr c30
                            obtain rfl := Option.some.inj H
                            have hcz62_0 : wr.cell? ⟨gb312, 0, none⟩ = some (.int .u32 t308) := (iI BK312.out 0).trans rfl
                            have hcz62_1 : wr.cell? ⟨gb312, 1, none⟩ = some (.slice Ao14 t309.length co14) := (iI BK312.out 1).trans rfl
                            have hfz62_0 := iH BK312.out 0
                            have hfz62_1 := iH BK312.out 1
                            go_wp2_with (first | ((with_reducible refine iU (f := 28) rfl ?_); refine jJ (some 51) rfl rfl Try.func28 (by kernel_rfl) rfl #[.agg #[.int .u32 t308, .slice Ao14 t309.length co14], .int .i64 (wrap64 (Int.tmod a0 1000)), .int .i64 (wrap64 ((wrap64 (Int.tmod a0 1000)) + 1))] rfl (by (try simp only [List.map_toArray, List.map_cons, List.map_nil]); first | done | rfl | (simp only [List.length_drop, List.length_take]; rfl)) ?_; (with_reducible refine (spans_Nodes.calls t308 _ _ t309 (wrap64 (Int.tmod a0 1000)) (wrap64 ((wrap64 (Int.tmod a0 1000)) + 1)) t316 _ ?side1 ?side2 A20.out).mono ?_); (case side1 => repeat (first | exact (Kd.R_reads' HO_313001.out).2.2 | (with_reducible refine Kd.C_alloc ?_ _) | (with_reducible refine Kd.C_drewN ?_ _) | (with_reducible refine Kd.C_drew ?_))); (case side2 => exact (Kd.R_reads' HO_313001.out).2.1); rintro e w63 ⟨v317, rfl, ho0, hb⟩; refine ⟨_, rfl, ?_⟩; have n0_ := iC.mk (Kd.R_below (by (with_reducible repeat (first | apply Kd.R_alloc | apply Kd.R_drewN | apply Kd.R_drew)); exact HO_313001.out) hb); have n1_ := iC.mk (Kd.R_lower ho0 (iJ (by repeat (first | (with_reducible first | exact HB.out | apply iF | apply iD | apply iG | refine iE ?_ GE312.out) | exact HB.out)))); have n2_ := iC.mk (iP (g := gb312) (o := .cells #[.int .u32 t308, .slice Ao14 t309.length co14] 42 (0, 0)) (bk_ BK312.out) hb); have n3_ := iC.mk (iK (by repeat (first | (with_reducible first | exact HB.out | apply iF | apply iD | apply iG | refine iE ?_ GE312.out) | exact HB.out)) hb); clear HO_313001; clear BK312; clear HB; have HO_313001 := n0_; have HO318 := n1_; have BK312 := n2_; have HB := n3_; clear n0_ n1_ n2_ n3_; (try clear hb); (try clear hb2); (try clear hk); (try clear hi); (try clear ho0); have hcz64_0 : w63.cell? ⟨gb312, 0, none⟩ = some (.int .u32 t308) := (iI BK312.out 0).trans rfl; have hcz64_1 : w63.cell? ⟨gb312, 1, none⟩ = some (.slice Ao14 t309.length co14) := (iI BK312.out 1).trans rfl; have hfz64_0 := iH BK312.out 0; have hfz64_1 := iH BK312.out 1) | (go_at_call 35; (with_reducible refine (spans_Find.calls t308 _ _ t309 (wrap64 (a0)) t319 _ ?side1 ?side2 A22.out).mono ?_); (case side1 => repeat (first | exact (Kd.R_reads' HO_313001.out).2.2 | (with_reducible refine Kd.C_alloc ?_ _) | (with_reducible refine Kd.C_drewN ?_ _) | (with_reducible refine Kd.C_drew ?_))); (case side2 => exact (Kd.R_reads' HO_313001.out).2.1); rintro e w65 ⟨rfl, hb⟩; have n0_ := iC.mk (Kd.R_below (by (with_reducible repeat (first | apply Kd.R_alloc | apply Kd.R_drewN | apply Kd.R_drew)); exact HO_313001.out) hb); have n1_ := iC.mk (Kd.R_below (by (with_reducible repeat (first | apply Kd.R_alloc | apply Kd.R_drewN | apply Kd.R_drew)); exact HO318.out) hb); have n2_ := iC.mk (iP (g := gb312) (o := .cells #[.int .u32 t308, .slice Ao14 t309.length co14] 42 (0, 0)) (bk_ BK312.out) hb); have n3_ := iC.mk (iK (by repeat (first | (with_reducible first | exact HB.out | apply iF | apply iD | apply iG | refine iE ?_ GE312.out) | exact HB.out)) hb); clear HO_313001; clear HO318; clear BK312; clear HB; have HO_313001 := n0_; have HO318 := n1_; have BK312 := n2_; have HB := n3_; clear n0_ n1_ n2_ n3_; (try clear hb); (try clear hb2); (try clear hk); (try clear hi); have hcz66_0 : w65.cell? ⟨gb312, 0, none⟩ = some (.int .u32 t308) := (iI BK312.out 0).trans rfl; have hcz66_1 : w65.cell? ⟨gb312, 1, none⟩ = some (.slice Ao14 t309.length co14) := (iI BK312.out 1).trans rfl; have hfz66_0 := iH BK312.out 0; have hfz66_1 := iH BK312.out 1) | (go_at_call 35; (with_reducible refine (spans_Find.calls t308 _ _ t309 (-1) t320 _ ?side1 ?side2 A24.out).mono ?_); (case side1 => repeat (first | exact (Kd.R_reads' HO_313001.out).2.2 | (with_reducible refine Kd.C_alloc ?_ _) | (with_reducible refine Kd.C_drewN ?_ _) | (with_reducible refine Kd.C_drew ?_))); (case side2 => exact (Kd.R_reads' HO_313001.out).2.1); rintro e w67 ⟨rfl, hb⟩; have n0_ := iC.mk (Kd.R_below (by (with_reducible repeat (first | apply Kd.R_alloc | apply Kd.R_drewN | apply Kd.R_drew)); exact HO_313001.out) hb); have n1_ := iC.mk (Kd.R_below (by (with_reducible repeat (first | apply Kd.R_alloc | apply Kd.R_drewN | apply Kd.R_drew)); exact HO318.out) hb); have n2_ := iC.mk (iP (g := gb312) (o := .cells #[.int .u32 t308, .slice Ao14 t309.length co14] 42 (0, 0)) (bk_ BK312.out) hb); have n3_ := iC.mk (iK (by repeat (first | (with_reducible first | exact HB.out | apply iF | apply iD | apply iG | refine iE ?_ GE312.out) | exact HB.out)) hb); clear HO_313001; clear HO318; clear BK312; clear HB; have HO_313001 := n0_; have HO318 := n1_; have BK312 := n2_; have HB := n3_; clear n0_ n1_ n2_ n3_; (try clear hb); (try clear hb2); (try clear hk); (try clear hi); obtain ⟨Ao68, co68, eo68⟩ := Kd.R_slice HO318.out; subst eo68; have p321 : 0 ≤ (0 : Int) := (by omega); have q321 : 0 < (t316.length : Int) := of_decide_eq_true asm_; obtain ⟨ad321, e321, hx321_0⟩ := Kd.at_int (Kd.R_reads' HO318.out).2.2 0 p321 q321; cases e321; have qi321 : (0 < t316.length) = True := eq_true (by omega); (try rw [show ((0 : Int)).toNat = 0 from rfl] at hx321_0); (try rw [Addr.add_zero'] at hx321_0); replace p321 := eq_true p321; replace q321 := eq_true q321; have hcz69_0 : w67.cell? ⟨gb312, 0, none⟩ = some (.int .u32 t308) := (iI BK312.out 0).trans rfl; have hcz69_1 : w67.cell? ⟨gb312, 1, none⟩ = some (.slice Ao14 t309.length co14) := (iI BK312.out 1).trans rfl; have hfz69_0 := iH BK312.out 0; have hfz69_1 := iH BK312.out 1) | (go_at_call 39; (with_reducible refine (spans_Parts.calls k2 t308 _ _ t309 _ _ l1 0 t322 _ ?side1 ?side2 ?side3 ?side4 A29.out).mono ?_); (case side1 => repeat (first | exact (Kd.R_reads' HO_313001.out).2.2 | (with_reducible refine Kd.C_alloc ?_ _) | (with_reducible refine Kd.C_drewN ?_ _) | (with_reducible refine Kd.C_drew ?_))); (case side2 => exact (Kd.R_reads' HO_313001.out).2.1); (case side3 => repeat (first | exact (Kd.C_below HR1.out HB.out) | (with_reducible refine Kd.C_alloc ?_ _) | (with_reducible refine Kd.C_drewN ?_ _) | (with_reducible refine Kd.C_drew ?_))); (case side4 => exact HC1.out); rintro e w70 ⟨v323, rfl, ho0, hb⟩; have n0_ := iC.mk (Kd.R_below (by (with_reducible repeat (first | apply Kd.R_alloc | apply Kd.R_drewN | apply Kd.R_drew)); exact HO_313001.out) hb); have n1_ := iC.mk (Kd.R_below (by (with_reducible repeat (first | apply Kd.R_alloc | apply Kd.R_drewN | apply Kd.R_drew)); exact HO318.out) hb); have n2_ := iC.mk (Kd.R_lower (Kd.R_new' ho0 (Kd.R_lt (by (with_reducible repeat (first | apply Kd.R_alloc | apply Kd.R_drewN | apply Kd.R_drew)); exact HO318.out))) (iJ (by repeat (first | (with_reducible first | exact HB.out | apply iF | apply iD | apply iG | refine iE ?_ GE312.out) | exact HB.out)))); have n3_ := iC.mk (iP (g := gb312) (o := .cells #[.int .u32 t308, .slice Ao14 t309.length co14] 42 (0, 0)) (bk_ BK312.out) hb); have n4_ := iC.mk (iK (by repeat (first | (with_reducible first | exact HB.out | apply iF | apply iD | apply iG | refine iE ?_ GE312.out) | exact HB.out)) hb); clear HO_313001; clear HO318; clear BK312; clear HB; have HO_313001 := n0_; have HO318 := n1_; have HO324 := n2_; have BK312 := n3_; have HB := n4_; clear n0_ n1_ n2_ n3_ n4_; (try clear hb); (try clear hb2); (try clear hk); (try clear hi); (try clear ho0); obtain ⟨Ao71, co71, eo71⟩ := Kd.R_slice HO324.out; subst eo71))
                            go_ret
                            exact ⟨by first | rfl | (simp [iR, iQ] <;> rfl) | (simp [*, iR, iQ] <;> rfl), by repeat (first | (with_reducible first | exact HB.out | apply iF | apply iD | apply iG | refine iE ?_ GE312.out) | exact HB.out)⟩
                        · rw [if_neg c28] at H
                          have c28b0 : ((rd t316 0) == 0) = false := beq_eq_false_iff_ne.mpr c28
                          have c28b1 : ((rd t316 0) != 0) = true := bne_iff_ne.mpr c28
                          obtain rfl := Option.some.inj H
                          have hcz72_0 : wr.cell? ⟨gb312, 0, none⟩ = some (.int .u32 t308) := (iI BK312.out 0).trans rfl
                          have hcz72_1 : wr.cell? ⟨gb312, 1, none⟩ = some (.slice Ao14 t309.length co14) := (iI BK312.out 1).trans rfl
                          have hfz72_0 := iH BK312.out 0
                          have hfz72_1 := iH BK312.out 1
                          go_wp2_with (first | ((with_reducible refine iU (f := 28) rfl ?_); refine jJ (some 51) rfl rfl Try.func28 (by kernel_rfl) rfl #[.agg #[.int .u32 t308, .slice Ao14 t309.length co14], .int .i64 (wrap64 (Int.tmod a0 1000)), .int .i64 (wrap64 ((wrap64 (Int.tmod a0 1000)) + 1))] rfl (by (try simp only [List.map_toArray, List.map_cons, List.map_nil]); first | done | rfl | (simp only [List.length_drop, List.length_take]; rfl)) ?_; (with_reducible refine (spans_Nodes.calls t308 _ _ t309 (wrap64 (Int.tmod a0 1000)) (wrap64 ((wrap64 (Int.tmod a0 1000)) + 1)) t316 _ ?side1 ?side2 A20.out).mono ?_); (case side1 => repeat (first | exact (Kd.R_reads' HO_313001.out).2.2 | (with_reducible refine Kd.C_alloc ?_ _) | (with_reducible refine Kd.C_drewN ?_ _) | (with_reducible refine Kd.C_drew ?_))); (case side2 => exact (Kd.R_reads' HO_313001.out).2.1); rintro e w73 ⟨v317, rfl, ho0, hb⟩; refine ⟨_, rfl, ?_⟩; have n0_ := iC.mk (Kd.R_below (by (with_reducible repeat (first | apply Kd.R_alloc | apply Kd.R_drewN | apply Kd.R_drew)); exact HO_313001.out) hb); have n1_ := iC.mk (Kd.R_lower ho0 (iJ (by repeat (first | (with_reducible first | exact HB.out | apply iF | apply iD | apply iG | refine iE ?_ GE312.out) | exact HB.out)))); have n2_ := iC.mk (iP (g := gb312) (o := .cells #[.int .u32 t308, .slice Ao14 t309.length co14] 42 (0, 0)) (bk_ BK312.out) hb); have n3_ := iC.mk (iK (by repeat (first | (with_reducible first | exact HB.out | apply iF | apply iD | apply iG | refine iE ?_ GE312.out) | exact HB.out)) hb); clear HO_313001; clear BK312; clear HB; have HO_313001 := n0_; have HO318 := n1_; have BK312 := n2_; have HB := n3_; clear n0_ n1_ n2_ n3_; (try clear hb); (try clear hb2); (try clear hk); (try clear hi); (try clear ho0); have hcz74_0 : w73.cell? ⟨gb312, 0, none⟩ = some (.int .u32 t308) := (iI BK312.out 0).trans rfl; have hcz74_1 : w73.cell? ⟨gb312, 1, none⟩ = some (.slice Ao14 t309.length co14) := (iI BK312.out 1).trans rfl; have hfz74_0 := iH BK312.out 0; have hfz74_1 := iH BK312.out 1) | (go_at_call 35; (with_reducible refine (spans_Find.calls t308 _ _ t309 (wrap64 (a0)) t319 _ ?side1 ?side2 A22.out).mono ?_); (case side1 => repeat (first | exact (Kd.R_reads' HO_313001.out).2.2 | (with_reducible refine Kd.C_alloc ?_ _) | (with_reducible refine Kd.C_drewN ?_ _) | (with_reducible refine Kd.C_drew ?_))); (case side2 => exact (Kd.R_reads' HO_313001.out).2.1); rintro e w75 ⟨rfl, hb⟩; have n0_ := iC.mk (Kd.R_below (by (with_reducible repeat (first | apply Kd.R_alloc | apply Kd.R_drewN | apply Kd.R_drew)); exact HO_313001.out) hb); have n1_ := iC.mk (Kd.R_below (by (with_reducible repeat (first | apply Kd.R_alloc | apply Kd.R_drewN | apply Kd.R_drew)); exact HO318.out) hb); have n2_ := iC.mk (iP (g := gb312) (o := .cells #[.int .u32 t308, .slice Ao14 t309.length co14] 42 (0, 0)) (bk_ BK312.out) hb); have n3_ := iC.mk (iK (by repeat (first | (with_reducible first | exact HB.out | apply iF | apply iD | apply iG | refine iE ?_ GE312.out) | exact HB.out)) hb); clear HO_313001; clear HO318; clear BK312; clear HB; have HO_313001 := n0_; have HO318 := n1_; have BK312 := n2_; have HB := n3_; clear n0_ n1_ n2_ n3_; (try clear hb); (try clear hb2); (try clear hk); (try clear hi); have hcz76_0 : w75.cell? ⟨gb312, 0, none⟩ = some (.int .u32 t308) := (iI BK312.out 0).trans rfl; have hcz76_1 : w75.cell? ⟨gb312, 1, none⟩ = some (.slice Ao14 t309.length co14) := (iI BK312.out 1).trans rfl; have hfz76_0 := iH BK312.out 0; have hfz76_1 := iH BK312.out 1) | (go_at_call 35; (with_reducible refine (spans_Find.calls t308 _ _ t309 (-1) t320 _ ?side1 ?side2 A24.out).mono ?_); (case side1 => repeat (first | exact (Kd.R_reads' HO_313001.out).2.2 | (with_reducible refine Kd.C_alloc ?_ _) | (with_reducible refine Kd.C_drewN ?_ _) | (with_reducible refine Kd.C_drew ?_))); (case side2 => exact (Kd.R_reads' HO_313001.out).2.1); rintro e w77 ⟨rfl, hb⟩; have n0_ := iC.mk (Kd.R_below (by (with_reducible repeat (first | apply Kd.R_alloc | apply Kd.R_drewN | apply Kd.R_drew)); exact HO_313001.out) hb); have n1_ := iC.mk (Kd.R_below (by (with_reducible repeat (first | apply Kd.R_alloc | apply Kd.R_drewN | apply Kd.R_drew)); exact HO318.out) hb); have n2_ := iC.mk (iP (g := gb312) (o := .cells #[.int .u32 t308, .slice Ao14 t309.length co14] 42 (0, 0)) (bk_ BK312.out) hb); have n3_ := iC.mk (iK (by repeat (first | (with_reducible first | exact HB.out | apply iF | apply iD | apply iG | refine iE ?_ GE312.out) | exact HB.out)) hb); clear HO_313001; clear HO318; clear BK312; clear HB; have HO_313001 := n0_; have HO318 := n1_; have BK312 := n2_; have HB := n3_; clear n0_ n1_ n2_ n3_; (try clear hb); (try clear hb2); (try clear hk); (try clear hi); obtain ⟨Ao78, co78, eo78⟩ := Kd.R_slice HO318.out; subst eo78; have p321 : 0 ≤ (0 : Int) := (by omega); have q321 : 0 < (t316.length : Int) := of_decide_eq_true asm_; obtain ⟨ad321, e321, hx321_0⟩ := Kd.at_int (Kd.R_reads' HO318.out).2.2 0 p321 q321; cases e321; have qi321 : (0 < t316.length) = True := eq_true (by omega); (try rw [show ((0 : Int)).toNat = 0 from rfl] at hx321_0); (try rw [Addr.add_zero'] at hx321_0); replace p321 := eq_true p321; replace q321 := eq_true q321))
                          go_ret
                          exact ⟨by first | rfl | (simp [iR, iQ] <;> rfl) | (simp [*, iR, iQ] <;> rfl), by repeat (first | (with_reducible first | exact HB.out | apply iF | apply iD | apply iG | refine iE ?_ GE312.out) | exact HB.out)⟩
                      · rw [if_neg c27] at H
                        exact absurd H (by simp)
                    · rw [if_neg c26] at H
                      have c26b0 : ((t316.length : Int) == 1) = false := beq_eq_false_iff_ne.mpr c26
                      have c26b1 : ((t316.length : Int) != 1) = true := bne_iff_ne.mpr c26
                      obtain rfl := Option.some.inj H
                      have hcz79_0 : wr.cell? ⟨gb312, 0, none⟩ = some (.int .u32 t308) := (iI BK312.out 0).trans rfl
                      have hcz79_1 : wr.cell? ⟨gb312, 1, none⟩ = some (.slice Ao14 t309.length co14) := (iI BK312.out 1).trans rfl
                      have hfz79_0 := iH BK312.out 0
                      have hfz79_1 := iH BK312.out 1
                      go_wp2_with (first | ((with_reducible refine iU (f := 28) rfl ?_); refine jJ (some 51) rfl rfl Try.func28 (by kernel_rfl) rfl #[.agg #[.int .u32 t308, .slice Ao14 t309.length co14], .int .i64 (wrap64 (Int.tmod a0 1000)), .int .i64 (wrap64 ((wrap64 (Int.tmod a0 1000)) + 1))] rfl (by (try simp only [List.map_toArray, List.map_cons, List.map_nil]); first | done | rfl | (simp only [List.length_drop, List.length_take]; rfl)) ?_; (with_reducible refine (spans_Nodes.calls t308 _ _ t309 (wrap64 (Int.tmod a0 1000)) (wrap64 ((wrap64 (Int.tmod a0 1000)) + 1)) t316 _ ?side1 ?side2 A20.out).mono ?_); (case side1 => repeat (first | exact (Kd.R_reads' HO_313001.out).2.2 | (with_reducible refine Kd.C_alloc ?_ _) | (with_reducible refine Kd.C_drewN ?_ _) | (with_reducible refine Kd.C_drew ?_))); (case side2 => exact (Kd.R_reads' HO_313001.out).2.1); rintro e w80 ⟨v317, rfl, ho0, hb⟩; refine ⟨_, rfl, ?_⟩; have n0_ := iC.mk (Kd.R_below (by (with_reducible repeat (first | apply Kd.R_alloc | apply Kd.R_drewN | apply Kd.R_drew)); exact HO_313001.out) hb); have n1_ := iC.mk (Kd.R_lower ho0 (iJ (by repeat (first | (with_reducible first | exact HB.out | apply iF | apply iD | apply iG | refine iE ?_ GE312.out) | exact HB.out)))); have n2_ := iC.mk (iP (g := gb312) (o := .cells #[.int .u32 t308, .slice Ao14 t309.length co14] 42 (0, 0)) (bk_ BK312.out) hb); have n3_ := iC.mk (iK (by repeat (first | (with_reducible first | exact HB.out | apply iF | apply iD | apply iG | refine iE ?_ GE312.out) | exact HB.out)) hb); clear HO_313001; clear BK312; clear HB; have HO_313001 := n0_; have HO318 := n1_; have BK312 := n2_; have HB := n3_; clear n0_ n1_ n2_ n3_; (try clear hb); (try clear hb2); (try clear hk); (try clear hi); (try clear ho0); have hcz81_0 : w80.cell? ⟨gb312, 0, none⟩ = some (.int .u32 t308) := (iI BK312.out 0).trans rfl; have hcz81_1 : w80.cell? ⟨gb312, 1, none⟩ = some (.slice Ao14 t309.length co14) := (iI BK312.out 1).trans rfl; have hfz81_0 := iH BK312.out 0; have hfz81_1 := iH BK312.out 1) | (go_at_call 35; (with_reducible refine (spans_Find.calls t308 _ _ t309 (wrap64 (a0)) t319 _ ?side1 ?side2 A22.out).mono ?_); (case side1 => repeat (first | exact (Kd.R_reads' HO_313001.out).2.2 | (with_reducible refine Kd.C_alloc ?_ _) | (with_reducible refine Kd.C_drewN ?_ _) | (with_reducible refine Kd.C_drew ?_))); (case side2 => exact (Kd.R_reads' HO_313001.out).2.1); rintro e w82 ⟨rfl, hb⟩; have n0_ := iC.mk (Kd.R_below (by (with_reducible repeat (first | apply Kd.R_alloc | apply Kd.R_drewN | apply Kd.R_drew)); exact HO_313001.out) hb); have n1_ := iC.mk (Kd.R_below (by (with_reducible repeat (first | apply Kd.R_alloc | apply Kd.R_drewN | apply Kd.R_drew)); exact HO318.out) hb); have n2_ := iC.mk (iP (g := gb312) (o := .cells #[.int .u32 t308, .slice Ao14 t309.length co14] 42 (0, 0)) (bk_ BK312.out) hb); have n3_ := iC.mk (iK (by repeat (first | (with_reducible first | exact HB.out | apply iF | apply iD | apply iG | refine iE ?_ GE312.out) | exact HB.out)) hb); clear HO_313001; clear HO318; clear BK312; clear HB; have HO_313001 := n0_; have HO318 := n1_; have BK312 := n2_; have HB := n3_; clear n0_ n1_ n2_ n3_; (try clear hb); (try clear hb2); (try clear hk); (try clear hi); have hcz83_0 : w82.cell? ⟨gb312, 0, none⟩ = some (.int .u32 t308) := (iI BK312.out 0).trans rfl; have hcz83_1 : w82.cell? ⟨gb312, 1, none⟩ = some (.slice Ao14 t309.length co14) := (iI BK312.out 1).trans rfl; have hfz83_0 := iH BK312.out 0; have hfz83_1 := iH BK312.out 1) | (go_at_call 35; (with_reducible refine (spans_Find.calls t308 _ _ t309 (-1) t320 _ ?side1 ?side2 A24.out).mono ?_); (case side1 => repeat (first | exact (Kd.R_reads' HO_313001.out).2.2 | (with_reducible refine Kd.C_alloc ?_ _) | (with_reducible refine Kd.C_drewN ?_ _) | (with_reducible refine Kd.C_drew ?_))); (case side2 => exact (Kd.R_reads' HO_313001.out).2.1); rintro e w84 ⟨rfl, hb⟩; have n0_ := iC.mk (Kd.R_below (by (with_reducible repeat (first | apply Kd.R_alloc | apply Kd.R_drewN | apply Kd.R_drew)); exact HO_313001.out) hb); have n1_ := iC.mk (Kd.R_below (by (with_reducible repeat (first | apply Kd.R_alloc | apply Kd.R_drewN | apply Kd.R_drew)); exact HO318.out) hb); have n2_ := iC.mk (iP (g := gb312) (o := .cells #[.int .u32 t308, .slice Ao14 t309.length co14] 42 (0, 0)) (bk_ BK312.out) hb); have n3_ := iC.mk (iK (by repeat (first | (with_reducible first | exact HB.out | apply iF | apply iD | apply iG | refine iE ?_ GE312.out) | exact HB.out)) hb); clear HO_313001; clear HO318; clear BK312; clear HB; have HO_313001 := n0_; have HO318 := n1_; have BK312 := n2_; have HB := n3_; clear n0_ n1_ n2_ n3_; (try clear hb); (try clear hb2); (try clear hk); (try clear hi); obtain ⟨Ao85, co85, eo85⟩ := Kd.R_slice HO318.out; subst eo85))
                      go_ret
                      exact ⟨by first | rfl | (simp [iR, iQ] <;> rfl) | (simp [*, iR, iQ] <;> rfl), by repeat (first | (with_reducible first | exact HB.out | apply iF | apply iD | apply iG | refine iE ?_ GE312.out) | exact HB.out)⟩
                  · rw [if_neg c25] at H
                    have c25b0 : (t320 == (-1)) = false := beq_eq_false_iff_ne.mpr c25
                    have c25b1 : (t320 != (-1)) = true := bne_iff_ne.mpr c25
                    obtain rfl := Option.some.inj H
                    have hcz86_0 : wr.cell? ⟨gb312, 0, none⟩ = some (.int .u32 t308) := (iI BK312.out 0).trans rfl
                    have hcz86_1 : wr.cell? ⟨gb312, 1, none⟩ = some (.slice Ao14 t309.length co14) := (iI BK312.out 1).trans rfl
                    have hfz86_0 := iH BK312.out 0
                    have hfz86_1 := iH BK312.out 1
                    go_wp2_with (first | ((with_reducible refine iU (f := 28) rfl ?_); refine jJ (some 51) rfl rfl Try.func28 (by kernel_rfl) rfl #[.agg #[.int .u32 t308, .slice Ao14 t309.length co14], .int .i64 (wrap64 (Int.tmod a0 1000)), .int .i64 (wrap64 ((wrap64 (Int.tmod a0 1000)) + 1))] rfl (by (try simp only [List.map_toArray, List.map_cons, List.map_nil]); first | done | rfl | (simp only [List.length_drop, List.length_take]; rfl)) ?_; (with_reducible refine (spans_Nodes.calls t308 _ _ t309 (wrap64 (Int.tmod a0 1000)) (wrap64 ((wrap64 (Int.tmod a0 1000)) + 1)) t316 _ ?side1 ?side2 A20.out).mono ?_); (case side1 => repeat (first | exact (Kd.R_reads' HO_313001.out).2.2 | (with_reducible refine Kd.C_alloc ?_ _) | (with_reducible refine Kd.C_drewN ?_ _) | (with_reducible refine Kd.C_drew ?_))); (case side2 => exact (Kd.R_reads' HO_313001.out).2.1); rintro e w87 ⟨v317, rfl, ho0, hb⟩; refine ⟨_, rfl, ?_⟩; have n0_ := iC.mk (Kd.R_below (by (with_reducible repeat (first | apply Kd.R_alloc | apply Kd.R_drewN | apply Kd.R_drew)); exact HO_313001.out) hb); have n1_ := iC.mk (Kd.R_lower ho0 (iJ (by repeat (first | (with_reducible first | exact HB.out | apply iF | apply iD | apply iG | refine iE ?_ GE312.out) | exact HB.out)))); have n2_ := iC.mk (iP (g := gb312) (o := .cells #[.int .u32 t308, .slice Ao14 t309.length co14] 42 (0, 0)) (bk_ BK312.out) hb); have n3_ := iC.mk (iK (by repeat (first | (with_reducible first | exact HB.out | apply iF | apply iD | apply iG | refine iE ?_ GE312.out) | exact HB.out)) hb); clear HO_313001; clear BK312; clear HB; have HO_313001 := n0_; have HO318 := n1_; have BK312 := n2_; have HB := n3_; clear n0_ n1_ n2_ n3_; (try clear hb); (try clear hb2); (try clear hk); (try clear hi); (try clear ho0); have hcz88_0 : w87.cell? ⟨gb312, 0, none⟩ = some (.int .u32 t308) := (iI BK312.out 0).trans rfl; have hcz88_1 : w87.cell? ⟨gb312, 1, none⟩ = some (.slice Ao14 t309.length co14) := (iI BK312.out 1).trans rfl; have hfz88_0 := iH BK312.out 0; have hfz88_1 := iH BK312.out 1) | (go_at_call 35; (with_reducible refine (spans_Find.calls t308 _ _ t309 (wrap64 (a0)) t319 _ ?side1 ?side2 A22.out).mono ?_); (case side1 => repeat (first | exact (Kd.R_reads' HO_313001.out).2.2 | (with_reducible refine Kd.C_alloc ?_ _) | (with_reducible refine Kd.C_drewN ?_ _) | (with_reducible refine Kd.C_drew ?_))); (case side2 => exact (Kd.R_reads' HO_313001.out).2.1); rintro e w89 ⟨rfl, hb⟩; have n0_ := iC.mk (Kd.R_below (by (with_reducible repeat (first | apply Kd.R_alloc | apply Kd.R_drewN | apply Kd.R_drew)); exact HO_313001.out) hb); have n1_ := iC.mk (Kd.R_below (by (with_reducible repeat (first | apply Kd.R_alloc | apply Kd.R_drewN | apply Kd.R_drew)); exact HO318.out) hb); have n2_ := iC.mk (iP (g := gb312) (o := .cells #[.int .u32 t308, .slice Ao14 t309.length co14] 42 (0, 0)) (bk_ BK312.out) hb); have n3_ := iC.mk (iK (by repeat (first | (with_reducible first | exact HB.out | apply iF | apply iD | apply iG | refine iE ?_ GE312.out) | exact HB.out)) hb); clear HO_313001; clear HO318; clear BK312; clear HB; have HO_313001 := n0_; have HO318 := n1_; have BK312 := n2_; have HB := n3_; clear n0_ n1_ n2_ n3_; (try clear hb); (try clear hb2); (try clear hk); (try clear hi); have hcz90_0 : w89.cell? ⟨gb312, 0, none⟩ = some (.int .u32 t308) := (iI BK312.out 0).trans rfl; have hcz90_1 : w89.cell? ⟨gb312, 1, none⟩ = some (.slice Ao14 t309.length co14) := (iI BK312.out 1).trans rfl; have hfz90_0 := iH BK312.out 0; have hfz90_1 := iH BK312.out 1) | (go_at_call 35; (with_reducible refine (spans_Find.calls t308 _ _ t309 (-1) t320 _ ?side1 ?side2 A24.out).mono ?_); (case side1 => repeat (first | exact (Kd.R_reads' HO_313001.out).2.2 | (with_reducible refine Kd.C_alloc ?_ _) | (with_reducible refine Kd.C_drewN ?_ _) | (with_reducible refine Kd.C_drew ?_))); (case side2 => exact (Kd.R_reads' HO_313001.out).2.1); rintro e w91 ⟨rfl, hb⟩; have n0_ := iC.mk (Kd.R_below (by (with_reducible repeat (first | apply Kd.R_alloc | apply Kd.R_drewN | apply Kd.R_drew)); exact HO_313001.out) hb); have n1_ := iC.mk (Kd.R_below (by (with_reducible repeat (first | apply Kd.R_alloc | apply Kd.R_drewN | apply Kd.R_drew)); exact HO318.out) hb); have n2_ := iC.mk (iP (g := gb312) (o := .cells #[.int .u32 t308, .slice Ao14 t309.length co14] 42 (0, 0)) (bk_ BK312.out) hb); have n3_ := iC.mk (iK (by repeat (first | (with_reducible first | exact HB.out | apply iF | apply iD | apply iG | refine iE ?_ GE312.out) | exact HB.out)) hb); clear HO_313001; clear HO318; clear BK312; clear HB; have HO_313001 := n0_; have HO318 := n1_; have BK312 := n2_; have HB := n3_; clear n0_ n1_ n2_ n3_; (try clear hb); (try clear hb2); (try clear hk); (try clear hi)))
                    go_ret
                    exact ⟨by first | rfl | (simp [iR, iQ] <;> rfl) | (simp [*, iR, iQ] <;> rfl), by repeat (first | (with_reducible first | exact HB.out | apply iF | apply iD | apply iG | refine iE ?_ GE312.out) | exact HB.out)⟩
                · rw [if_neg c23] at H
                  have c23b0 : (t319 == 0) = false := beq_eq_false_iff_ne.mpr c23
                  have c23b1 : (t319 != 0) = true := bne_iff_ne.mpr c23
                  obtain rfl := Option.some.inj H
                  have hcz92_0 : wr.cell? ⟨gb312, 0, none⟩ = some (.int .u32 t308) := (iI BK312.out 0).trans rfl
                  have hcz92_1 : wr.cell? ⟨gb312, 1, none⟩ = some (.slice Ao14 t309.length co14) := (iI BK312.out 1).trans rfl
                  have hfz92_0 := iH BK312.out 0
                  have hfz92_1 := iH BK312.out 1
                  go_wp2_with (first | ((with_reducible refine iU (f := 28) rfl ?_); refine jJ (some 51) rfl rfl Try.func28 (by kernel_rfl) rfl #[.agg #[.int .u32 t308, .slice Ao14 t309.length co14], .int .i64 (wrap64 (Int.tmod a0 1000)), .int .i64 (wrap64 ((wrap64 (Int.tmod a0 1000)) + 1))] rfl (by (try simp only [List.map_toArray, List.map_cons, List.map_nil]); first | done | rfl | (simp only [List.length_drop, List.length_take]; rfl)) ?_; (with_reducible refine (spans_Nodes.calls t308 _ _ t309 (wrap64 (Int.tmod a0 1000)) (wrap64 ((wrap64 (Int.tmod a0 1000)) + 1)) t316 _ ?side1 ?side2 A20.out).mono ?_); (case side1 => repeat (first | exact (Kd.R_reads' HO_313001.out).2.2 | (with_reducible refine Kd.C_alloc ?_ _) | (with_reducible refine Kd.C_drewN ?_ _) | (with_reducible refine Kd.C_drew ?_))); (case side2 => exact (Kd.R_reads' HO_313001.out).2.1); rintro e w93 ⟨v317, rfl, ho0, hb⟩; refine ⟨_, rfl, ?_⟩; have n0_ := iC.mk (Kd.R_below (by (with_reducible repeat (first | apply Kd.R_alloc | apply Kd.R_drewN | apply Kd.R_drew)); exact HO_313001.out) hb); have n1_ := iC.mk (Kd.R_lower ho0 (iJ (by repeat (first | (with_reducible first | exact HB.out | apply iF | apply iD | apply iG | refine iE ?_ GE312.out) | exact HB.out)))); have n2_ := iC.mk (iP (g := gb312) (o := .cells #[.int .u32 t308, .slice Ao14 t309.length co14] 42 (0, 0)) (bk_ BK312.out) hb); have n3_ := iC.mk (iK (by repeat (first | (with_reducible first | exact HB.out | apply iF | apply iD | apply iG | refine iE ?_ GE312.out) | exact HB.out)) hb); clear HO_313001; clear BK312; clear HB; have HO_313001 := n0_; have HO318 := n1_; have BK312 := n2_; have HB := n3_; clear n0_ n1_ n2_ n3_; (try clear hb); (try clear hb2); (try clear hk); (try clear hi); (try clear ho0); have hcz94_0 : w93.cell? ⟨gb312, 0, none⟩ = some (.int .u32 t308) := (iI BK312.out 0).trans rfl; have hcz94_1 : w93.cell? ⟨gb312, 1, none⟩ = some (.slice Ao14 t309.length co14) := (iI BK312.out 1).trans rfl; have hfz94_0 := iH BK312.out 0; have hfz94_1 := iH BK312.out 1) | (go_at_call 35; (with_reducible refine (spans_Find.calls t308 _ _ t309 (wrap64 (a0)) t319 _ ?side1 ?side2 A22.out).mono ?_); (case side1 => repeat (first | exact (Kd.R_reads' HO_313001.out).2.2 | (with_reducible refine Kd.C_alloc ?_ _) | (with_reducible refine Kd.C_drewN ?_ _) | (with_reducible refine Kd.C_drew ?_))); (case side2 => exact (Kd.R_reads' HO_313001.out).2.1); rintro e w95 ⟨rfl, hb⟩; have n0_ := iC.mk (Kd.R_below (by (with_reducible repeat (first | apply Kd.R_alloc | apply Kd.R_drewN | apply Kd.R_drew)); exact HO_313001.out) hb); have n1_ := iC.mk (Kd.R_below (by (with_reducible repeat (first | apply Kd.R_alloc | apply Kd.R_drewN | apply Kd.R_drew)); exact HO318.out) hb); have n2_ := iC.mk (iP (g := gb312) (o := .cells #[.int .u32 t308, .slice Ao14 t309.length co14] 42 (0, 0)) (bk_ BK312.out) hb); have n3_ := iC.mk (iK (by repeat (first | (with_reducible first | exact HB.out | apply iF | apply iD | apply iG | refine iE ?_ GE312.out) | exact HB.out)) hb); clear HO_313001; clear HO318; clear BK312; clear HB; have HO_313001 := n0_; have HO318 := n1_; have BK312 := n2_; have HB := n3_; clear n0_ n1_ n2_ n3_; (try clear hb); (try clear hb2); (try clear hk); (try clear hi)))
                  go_ret
                  exact ⟨by first | rfl | (simp [iR, iQ] <;> rfl) | (simp [*, iR, iQ] <;> rfl), by repeat (first | (with_reducible first | exact HB.out | apply iF | apply iD | apply iG | refine iE ?_ GE312.out) | exact HB.out)⟩
              · rw [if_neg c21] at H
                have c21b0 : (t308 == 1) = false := beq_eq_false_iff_ne.mpr c21
                have c21b1 : (t308 != 1) = true := bne_iff_ne.mpr c21
                obtain rfl := Option.some.inj H
                have hcz96_0 : wr.cell? ⟨gb312, 0, none⟩ = some (.int .u32 t308) := (iI BK312.out 0).trans rfl
                have hcz96_1 : wr.cell? ⟨gb312, 1, none⟩ = some (.slice Ao14 t309.length co14) := (iI BK312.out 1).trans rfl
                have hfz96_0 := iH BK312.out 0
                have hfz96_1 := iH BK312.out 1
                go_wp2_with (first | ((with_reducible refine iU (f := 28) rfl ?_); refine jJ (some 51) rfl rfl Try.func28 (by kernel_rfl) rfl #[.agg #[.int .u32 t308, .slice Ao14 t309.length co14], .int .i64 (wrap64 (Int.tmod a0 1000)), .int .i64 (wrap64 ((wrap64 (Int.tmod a0 1000)) + 1))] rfl (by (try simp only [List.map_toArray, List.map_cons, List.map_nil]); first | done | rfl | (simp only [List.length_drop, List.length_take]; rfl)) ?_; (with_reducible refine (spans_Nodes.calls t308 _ _ t309 (wrap64 (Int.tmod a0 1000)) (wrap64 ((wrap64 (Int.tmod a0 1000)) + 1)) t316 _ ?side1 ?side2 A20.out).mono ?_); (case side1 => repeat (first | exact (Kd.R_reads' HO_313001.out).2.2 | (with_reducible refine Kd.C_alloc ?_ _) | (with_reducible refine Kd.C_drewN ?_ _) | (with_reducible refine Kd.C_drew ?_))); (case side2 => exact (Kd.R_reads' HO_313001.out).2.1); rintro e w97 ⟨v317, rfl, ho0, hb⟩; refine ⟨_, rfl, ?_⟩; have n0_ := iC.mk (Kd.R_below (by (with_reducible repeat (first | apply Kd.R_alloc | apply Kd.R_drewN | apply Kd.R_drew)); exact HO_313001.out) hb); have n1_ := iC.mk (Kd.R_lower ho0 (iJ (by repeat (first | (with_reducible first | exact HB.out | apply iF | apply iD | apply iG | refine iE ?_ GE312.out) | exact HB.out)))); have n2_ := iC.mk (iP (g := gb312) (o := .cells #[.int .u32 t308, .slice Ao14 t309.length co14] 42 (0, 0)) (bk_ BK312.out) hb); have n3_ := iC.mk (iK (by repeat (first | (with_reducible first | exact HB.out | apply iF | apply iD | apply iG | refine iE ?_ GE312.out) | exact HB.out)) hb); clear HO_313001; clear BK312; clear HB; have HO_313001 := n0_; have HO318 := n1_; have BK312 := n2_; have HB := n3_; clear n0_ n1_ n2_ n3_; (try clear hb); (try clear hb2); (try clear hk); (try clear hi); (try clear ho0); have hcz98_0 : w97.cell? ⟨gb312, 0, none⟩ = some (.int .u32 t308) := (iI BK312.out 0).trans rfl; have hcz98_1 : w97.cell? ⟨gb312, 1, none⟩ = some (.slice Ao14 t309.length co14) := (iI BK312.out 1).trans rfl; have hfz98_0 := iH BK312.out 0; have hfz98_1 := iH BK312.out 1))
                go_ret
                exact ⟨by first | rfl | (simp [iR, iQ] <;> rfl) | (simp [*, iR, iQ] <;> rfl), by repeat (first | (with_reducible first | exact HB.out | apply iF | apply iD | apply iG | refine iE ?_ GE312.out) | exact HB.out)⟩
end Go.Proofs.Ytbpdejbkfpkphaa.K
end

section
namespace Go.Proofs.Ytbpdejbkfpkphaa.K
open Go Go.RowKit Go.Proofs.YtbpdejbkfpkphaaW.PrintWords Go.Proofs.YtbpdejbkfpkphaaW.PrintLast Go.Proofs.YtbpdejbkfpkphaaW.PrintMore
abbrev TFa := S77
abbrev rdFa (l : List TFa) (i : Int) : TFa := iV l i
theorem qO (k : Nat) (hk : 20 ≤ k) : stratumlaw12_known.f k = some true := by
  induction k with
  | zero => omega
  | succ k ih =>
    by_cases h : k + 1 = 20
    · rw [h]; exact xJ
    · exact stratumlaw12_known.mono k _ (ih (by omega))
/-- The part of node n. -/
def kU (l : List TSp) (n : Int) (x : TFa) : Bool := decide (0 < x.f0.length) && decide (jQ l (rd x.f0 0) = n)
def kC (l : List TSp) (xs : List TFa) (n : Int) : List TFa := xs.filter (kU l n)
theorem oL (xs : List TFa) (i : Nat) (h : i < xs.length) : rdFa xs (i : Int) = xs[i] := by
  show xs.getD (i : Int).toNat _ = _
  rw [Int.toNat_natCast, List.getD_eq_getElem?_getD, List.getElem?_eq_getElem h]; rfl
theorem drop_cons {α : Type} (xs : List α) (i : Nat) (h : i < xs.length) : xs.drop i = xs[i] :: xs.drop (i + 1) := by rw [List.drop_eq_getElem_cons h]
theorem lX (i : Nat) (h : (i : Int) ≤ 8796093022208) : wrap64 ((i : Int) + 1) = ((i + 1 : Nat) : Int) := by unfold wrap64; omega
theorem find_ok (a : Int) (l : List TSp) (m : Int) (h : (l.length : Int) ≤ 8796093022208) : spans_Find.f a l m = some (jQ l m) := by unfold spans_Find.f; rw [if_pos h]
theorem nG (a : Int) (l : List TSp) (hl : (l.length : Int) ≤ 8796093022208) (xs : List TFa) (hxs : xs.length ≤ 1000000) (hk : ∀ x ∈ xs, (x.f0.length : Int) ≤ 17592186044416) (n : Int) :
    ∀ (k i : Nat) (out : List TFa), i ≤ xs.length → xs.length - i < k → out.length ≤ i → spans_Parts.l0 k n out xs xs.length i a l = some (out ++ kC l (xs.drop i) n)
  | 0, _, _, _, h, _ => by omega
  | k + 1, i, out, hi, hki, ho => by
    unfold spans_Parts.l0
    by_cases hlt : i < xs.length
    · have h1 : iV xs (i : Int) = xs[i] := oL xs i hlt
      have hkey := hk xs[i] (List.getElem_mem hlt)
      rw [if_pos (by omega), if_pos (by omega), if_pos (by omega), h1, drop_cons xs i hlt, lX i (by omega)]
      by_cases hp : 0 < xs[i].f0.length
      · rw [if_pos (by omega), if_pos (by omega), find_ok _ _ _ hl]
        simp only [Option.bind_some]
        by_cases hf : jQ l (rd xs[i].f0 0) = n
        · rw [if_pos hf]
          have hc : slices_Clone_int_int.f xs[i].f0 = some xs[i].f0 := by unfold slices_Clone_int_int.f; rw [if_pos hkey]
          rw [hc]
          simp only [Option.bind_some]
          rw [if_pos (by omega), nG a l hl xs hxs hk n k (i + 1) _ (by omega) (by omega) (by simp; omega)]
          have hin : kU l n xs[i] = true := by simp [kU, hp, hf]
          unfold kC
          rw [List.filter_cons_of_pos hin, List.append_assoc]; rfl
        · rw [if_neg hf, nG a l hl xs hxs hk n k (i + 1) _ (by omega) (by omega) (by omega)]
          have hin : kU l n xs[i] = false := by simp [kU, hf]
          unfold kC
          rw [List.filter_cons_of_neg (by rw [hin]; decide)]
      · rw [if_neg (by omega), nG a l hl xs hxs hk n k (i + 1) _ (by omega) (by omega) (by omega)]
        have hin : kU l n xs[i] = false := by simp [kU, hp]
        unfold kC
        rw [List.filter_cons_of_neg (by rw [hin]; decide)]
    · rw [if_neg (by omega), List.drop_eq_nil_of_le (by omega)]
      simp [kC]
theorem xB (k : Nat) (a : Int) (l : List TSp) (hl : (l.length : Int) ≤ 8796093022208) (xs : List TFa) (hxs : xs.length ≤ 1000000) (hk : ∀ x ∈ xs, (x.f0.length : Int) ≤ 17592186044416) (n : Int) (hkk : xs.length < k) : spans_Parts.f k a l xs n = some (kC l xs n) := by
  unfold spans_Parts.f
  have := nG a l hl xs hxs hk n k 0 [] (by omega) (by omega) (by simp)
  simpa using this
/-- Facts of a member that is not below 0. -/
def lL (x : TFa) : Bool := decide (0 < x.f0.length) && decide (0 ≤ rd x.f0 0)
end Go.Proofs.Ytbpdejbkfpkphaa.K
end

section
namespace Go.Proofs.Ytbpdejbkfpkphaa.K
open Go Go.RowKit Go.Proofs.YtbpdejbkfpkphaaW.PrintWords Go.Proofs.YtbpdejbkfpkphaaW.PrintLast Go.Proofs.YtbpdejbkfpkphaaW.PrintMore
/-- The node at u: the last member at or below u; d ahead of all. -/
def fd (d : Int) (l : List TSp) (u : Int) : Int := l.foldl (fun n x => if x.f0 ≤ u then x.f1 else n) d
theorem kZ (d : Int) (x : TSp) (l : List TSp) (u : Int) : fd d (x :: l) u = fd (if x.f0 ≤ u then x.f1 else d) l u := rfl
theorem lQ (d : Int) (l r : List TSp) (u : Int) : fd d (l ++ r) u = fd (fd d l u) r u := by unfold fd; rw [List.foldl_append]
theorem lD (l : List TSp) (u : Int) : jQ l u = fd (-1) l u := by
  unfold jQ fd
  suffices h : ∀ (r : List TSp), ((r.find? (fun x => decide (x.f0 ≤ u))).map (fun x => x.f1)).getD (-1) = r.foldr (fun x n => if x.f0 ≤ u then x.f1 else n) (-1) by
    rw [h, List.foldr_reverse]
  intro r
  induction r with
  | nil => rfl
  | cons x r ih =>
    rw [List.find?_cons, List.foldr_cons]
    by_cases hx : x.f0 ≤ u
    · simp [hx]
    · simp only [hx, decide_false, if_false]; exact ih
/-- All begin above u: the node at u is the one ahead. -/
theorem lG {d : Int} {l : List TSp} {u : Int} (h : ∀ x ∈ l, u < x.f0) : fd d l u = d := by
  induction l generalizing d with
  | nil => rfl
  | cons x r ih =>
    rw [kZ, if_neg (by have := h x (by simp); omega)]
    exact ih (fun y hy => h y (by simp [hy]))
/-- Members that rise, each from lo on and below hi; neighbours unlike, the first unlike d. -/
def Ris : Int → Int → Int → List TSp → Prop
  | _, _, _, [] => True
  | lo, hi, d, x :: r => lo ≤ x.f0 ∧ x.f0 < hi ∧ x.f1 ≠ d ∧ Ris (x.f0 + 1) hi x.f1 r
theorem Ris.lo {lo hi d : Int} {l : List TSp} (h : Ris lo hi d l) : ∀ x ∈ l, lo ≤ x.f0 ∧ x.f0 < hi := by
  induction l generalizing lo d with
  | nil => simp
  | cons y r ih =>
    intro x hx
    rcases List.mem_cons.1 hx with rfl | hx
    · exact ⟨h.1, h.2.1⟩
    · have := ih h.2.2.2 x hx
      have := h.1
      omega
theorem Ris.weak {lo lo' hi d : Int} {l : List TSp} (h : Ris lo hi d l) (hl : ∀ x ∈ l, lo' ≤ x.f0) : Ris lo' hi d l := by
  cases l with
  | nil => trivial
  | cons x r => exact ⟨hl x (by simp), h.2⟩
/-- Where f turns, from v on, n members. -/
def cn (f : Int → Int) : Int → Int → Nat → List TSp
  | _, _, 0 => []
  | last, v, n + 1 => if f v = last then cn f last (v + 1) n else ⟨v, f v⟩ :: cn f (f v) (v + 1) n
theorem qV (f : Int → Int) : ∀ (n : Nat) (v d : Int) (l : List TSp), Ris v (v + n) d l → (∀ u, v ≤ u → u < v + n → f u = fd d l u) → cn f d v n = l
  | 0, v, d, l, hr, _ => by
    cases l with
    | nil => rfl
    | cons x r => have := hr.1; have := hr.2.1; omega
  | n + 1, v, d, l, hr, hf => by
    have hv := hf v (by omega) (by omega)
    unfold cn
    by_cases hx : ∃ x r, l = x :: r ∧ x.f0 = v
    · obtain ⟨x, r, rfl, hxv⟩ := hx
      have hab : fd d (x :: r) v = x.f1 := by
        rw [kZ, if_pos (by omega)]
        exact lG (fun y hy => by have := (hr.2.2.2).lo y hy; omega)
      rw [hab] at hv
      rw [if_neg (by rw [hv]; exact hr.2.2.1), hv]
      have := qV f n (v + 1) x.f1 r (by have h := hr.2.2.2; rw [hxv] at h; rwa [show v + 1 + (n : Int) = v + ((n + 1 : Nat) : Int) by omega]) (fun u h1 h2 => by
        rw [hf u (by omega) (by omega), kZ, if_pos (by omega)])
      rw [this, ← hxv]
    · have hne : ∀ x ∈ l, v + 1 ≤ x.f0 := by
        intro x hxl
        cases l with
        | nil => simp at hxl
        | cons y r =>
          have h0 : y.f0 ≠ v := fun e => hx ⟨y, r, rfl, e⟩
          have h1 := hr.1
          rcases List.mem_cons.1 hxl with rfl | hm
          · omega
          · have := (hr.2.2.2).lo x hm; omega
      rw [hv, lG (fun x hxl => by have := hne x hxl; omega), if_pos rfl]
      exact qV f n (v + 1) d l (by have := hr.weak hne; rwa [show v + 1 + (n : Int) = v + ((n + 1 : Nat) : Int) by omega]) (fun u h1 h2 => hf u (by omega) (by omega))
/-- What Sound asks behind the first member. -/
def sndF (size nodes : Int) : Int → Int → List TSp → Bool
  | _, _, [] => true
  | lf, ln, x :: r => !decide (x.f0 ≤ lf) && !decide (x.f0 ≥ size) && !decide (x.f1 = ln) && !decide (x.f1 < 0) && !decide (x.f1 ≥ mn nodes 6) && sndF size nodes x.f0 x.f1 r
def mZ (l : List TSp) (size nodes : Int) : Bool := decide (l.length ≠ 0) && decide (l.length ≤ 40) && decide ((rdSp l 0).f0 = 0) && sndF size nodes (-1) (-1) l
theorem lW (l : List TSp) (i : Nat) (h : i < l.length) : iT l (i : Int) = l[i] := by
  show l.getD (i : Int).toNat _ = _
  rw [Int.toNat_natCast, List.getD_eq_getElem?_getD, List.getElem?_eq_getElem h]; rfl
def gl1 : Int → List TSp → List TSp
  | _, [] => []
  | d, x :: r => if x.f1 = d then gl1 d r else x :: gl1 x.f1 r
def ln1 (d : Int) (l : List TSp) : Int := l.foldl (fun _ x => x.f1) d
theorem oN (x : TSp) : ∀ (l : List TSp) (d : Int), gl1 d (l ++ [x]) = if x.f1 = ln1 d l then gl1 d l else gl1 d l ++ [x]
  | [], d => by by_cases h : x.f1 = d <;> simp [gl1, ln1, h]
  | y :: l, d => by
    have hl : ln1 d (y :: l) = ln1 y.f1 l := rfl
    rw [List.cons_append, hl]
    by_cases hy : y.f1 = d
    · simp only [gl1, hy, if_true]; exact oN x l d
    · simp only [gl1, hy, if_false, oN x l y.f1]
      split <;> rfl
def gl0 : List TSp → List TSp
  | [] => []
  | x :: r => x :: gl1 x.f1 r
theorem vY (d : Int) (l : List TSp) (x : TSp) : ln1 d (l ++ [x]) = x.f1 := by simp [ln1]
theorem uJ (xs : List TSp) : ∀ m : Nat, m ≤ xs.length → glN xs m = gl0 (xs.take m)
  | 0, _ => by simp [glN, gl0]
  | m + 1, h => by
    rw [take_snoc xs m (by omega)]
    unfold glN
    rw [uJ xs m (by omega)]
    cases m with
    | zero => simp [gl0, gl1]
    | succ m =>
      have h1 := take_snoc xs m (by omega)
      cases hc : xs.take (m + 1) with
      | nil => rw [hc] at h1; simp at h1
      | cons y t =>
        have h2 : ln1 y.f1 t = (rdSp xs m).f1 := by
          have : ln1 0 (y :: t) = (rdSp xs m).f1 := by rw [← hc, h1, vY]
          exact this
        rw [List.cons_append]
        simp only [gl0, oN, h2]
        have h3 : ((m + 1 : Nat) : Int) - 1 = (m : Int) := by omega
        rw [h3]
        by_cases he : (rdSp xs ((m + 1 : Nat) : Int)).f1 = (rdSp xs m).f1
        · rw [if_pos ⟨by omega, he⟩, if_pos he]
        · rw [if_neg (fun hh => he hh.2), if_neg he]; rfl
theorem yG {l : List TSp} {d : Int} (h : ∀ x ∈ l, x.f1 ≠ d) : gl0 l = gl1 d l := by
  cases l with
  | nil => rfl
  | cons x r => simp [gl0, gl1, h x (by simp)]
/-- Members that rise. -/
def Asc (l : List TSp) : Prop := l.Pairwise (fun a b => a.f0 < b.f0)
theorem qG : ∀ (l : List TSp) (d : Int) (x : TSp), x ∈ gl1 d l → x ∈ l
  | [], _, _, h => h
  | y :: r, d, x, h => by
    unfold gl1 at h
    split at h
    · exact List.mem_cons_of_mem _ (qG r d x h)
    · rcases List.mem_cons.1 h with rfl | h
      · exact List.mem_cons_self
      · exact List.mem_cons_of_mem _ (qG r _ x h)
theorem uI (u : Int) : ∀ (l : List TSp) (d : Int), Asc l → fd d (gl1 d l) u = fd d l u
  | [], _, _ => rfl
  | x :: r, d, ha => by
    have har : Asc r := (List.pairwise_cons.1 ha).2
    have hax := (List.pairwise_cons.1 ha).1
    unfold gl1
    by_cases hx : x.f1 = d
    · rw [if_pos hx, uI u r d har, kZ]
      by_cases h : x.f0 ≤ u
      · rw [if_pos h, hx]
      · rw [if_neg h]
    · rw [if_neg hx, kZ, kZ]
      by_cases h : x.f0 ≤ u
      · rw [if_pos h, uI u r x.f1 har]
      · rw [if_neg h, lG (fun y hy => by have := hax y (qG r _ y hy); omega), lG (fun y hy => by have := hax y hy; omega)]
theorem qE {hi : Int} : ∀ (l : List TSp) (d lo : Int), Asc l → (∀ x ∈ l, lo ≤ x.f0 ∧ x.f0 < hi) → Ris lo hi d (gl1 d l)
  | [], _, _, _, _ => trivial
  | x :: r, d, lo, ha, hb => by
    have har : Asc r := (List.pairwise_cons.1 ha).2
    have hax := (List.pairwise_cons.1 ha).1
    unfold gl1
    by_cases hx : x.f1 = d
    · rw [if_pos hx]
      exact qE r d lo har (fun y hy => hb y (List.mem_cons_of_mem _ hy))
    · rw [if_neg hx]
      exact ⟨(hb x List.mem_cons_self).1, (hb x List.mem_cons_self).2, hx, qE r x.f1 (x.f0 + 1) har (fun y hy => ⟨by have := hax y hy; omega, (hb y (List.mem_cons_of_mem _ hy)).2⟩)⟩
/-- What glued members are: where their node turns. -/
theorem zQ (l : List TSp) (n : Nat) (ha : Asc l) (hb : ∀ x ∈ l, 0 ≤ x.f0 ∧ x.f0 < n) (hn : ∀ x ∈ l, x.f1 ≠ -1) (f : Int → Int) (hf : ∀ u : Int, 0 ≤ u → u < (n : Int) → f u = fd (-1) l u) : glN l l.length = cn f (-1) 0 n := by
  rw [uJ l l.length (Nat.le_refl _), List.take_length, yG hn]
  refine (qV f n 0 (-1) _ (by rw [Int.zero_add]; exact qE l (-1) 0 ha hb) (fun u h1 h2 => ?_)).symm
  rw [hf u h1 (by omega), uI u l (-1) ha]
end Go.Proofs.Ytbpdejbkfpkphaa.K
end

section
namespace Go.Proofs.Ytbpdejbkfpkphaa.K
open Go Go.RowKit Go.Proofs.YtbpdejbkfpkphaaW.PrintWords Go.Proofs.YtbpdejbkfpkphaaW.PrintLast Go.Proofs.YtbpdejbkfpkphaaW.PrintMore
/-- Split's end: the members glued; too many: refused. -/
def xC (a : Int) (L : List TSp) : Int × List TSp × Int := if ((glN L L.length).length : Int) > 40 then (0, [], 3) else ((a + 1) % 4294967296, glN L L.length, 0)
/-- Split's members ahead of gluing. -/
def mQ (l : List TSp) (size tt : Int) (out : List TSp) : List TSp := (if tt < size then out ++ [⟨tt, jQ l tt⟩] else out) ++ l.filter (fun x => decide (x.f0 > tt))
end Go.Proofs.Ytbpdejbkfpkphaa.K
end

section
namespace Go.Proofs.Ytbpdejbkfpkphaa.K
open Go Go.RowKit Go.Proofs.YtbpdejbkfpkphaaW.PrintWords Go.Proofs.YtbpdejbkfpkphaaW.PrintLast Go.Proofs.YtbpdejbkfpkphaaW.PrintMore
theorem pM (size nodes : Int) : ∀ (l : List TSp) (lf ln : Int), sndF size nodes lf ln l = true → Ris (lf + 1) size ln l ∧ ∀ x ∈ l, 0 ≤ x.f1 ∧ x.f1 < mn nodes 6
  | [], _, _, _ => ⟨trivial, by simp⟩
  | x :: r, lf, ln, h => by
    rw [show sndF size nodes lf ln (x :: r) = (!decide (x.f0 ≤ lf) && !decide (x.f0 ≥ size) && !decide (x.f1 = ln) && !decide (x.f1 < 0) && !decide (x.f1 ≥ mn nodes 6) && sndF size nodes x.f0 x.f1 r) from rfl] at h
    simp only [Bool.and_eq_true, Bool.not_eq_true', decide_eq_false_iff_not] at h
    obtain ⟨⟨⟨⟨⟨h1, h2⟩, h3⟩, h4⟩, h5⟩, h6⟩ := h
    obtain ⟨k1, k2⟩ := pM size nodes r x.f0 x.f1 h6
    refine ⟨⟨by omega, by omega, h3, k1⟩, fun y hy => ?_⟩
    rcases List.mem_cons.1 hy with rfl | hy
    · exact ⟨by omega, by omega⟩
    · exact k2 y hy
theorem Ris.asc {hi : Int} : ∀ {l : List TSp} {lo d : Int}, Ris lo hi d l → Asc l
  | [], _, _, _ => List.Pairwise.nil
  | x :: r, _, _, h => List.pairwise_cons.2 ⟨fun y hy => by have := (h.2.2.2).lo y hy; omega, h.2.2.2.asc⟩
/-- What a sound map is. -/
structure Snd (l : List TSp) (size nodes : Int) : Prop where
  len : l.length ≤ 40
  ris : Ris 0 size (-1) l
  node : ∀ x ∈ l, 0 ≤ x.f1 ∧ x.f1 < mn nodes 6
  ne : l ≠ []
  zero : (rdSp l 0).f0 = 0
theorem zI {l : List TSp} {size nodes : Int} (h : mZ l size nodes = true) : Snd l size nodes := by
  unfold mZ at h
  simp only [Bool.and_eq_true, decide_eq_true_eq] at h
  obtain ⟨⟨⟨h1, h2⟩, h3⟩, h4⟩ := h
  obtain ⟨k1, k2⟩ := pM size nodes l (-1) (-1) h4
  exact ⟨h2, k1, k2, fun e => h1 (by rw [e]; rfl), h3⟩
theorem qW (size nodes : Int) : ∀ (l : List TSp) (lf ln : Int), Ris (lf + 1) size ln l → (∀ x ∈ l, 0 ≤ x.f1 ∧ x.f1 < mn nodes 6) → sndF size nodes lf ln l = true
  | [], _, _, _, _ => rfl
  | x :: r, lf, ln, h, hn => by
    rw [show sndF size nodes lf ln (x :: r) = (!decide (x.f0 ≤ lf) && !decide (x.f0 ≥ size) && !decide (x.f1 = ln) && !decide (x.f1 < 0) && !decide (x.f1 ≥ mn nodes 6) && sndF size nodes x.f0 x.f1 r) from rfl]
    have h0 := hn x List.mem_cons_self
    rw [qW size nodes r x.f0 x.f1 h.2.2.2 (fun y hy => hn y (List.mem_cons_of_mem _ hy))]
    have := h.1
    have := h.2.1
    simp only [Bool.and_eq_true, Bool.not_eq_true', decide_eq_false_iff_not, and_true]
    exact ⟨⟨⟨⟨by omega, by omega⟩, h.2.2.1⟩, by omega⟩, by omega⟩
theorem zW {l : List TSp} {size nodes : Int} (h : Snd l size nodes) : mZ l size nodes = true := by
  unfold mZ
  simp only [Bool.and_eq_true, decide_eq_true_eq]
  exact ⟨⟨⟨fun e => h.ne (List.length_eq_zero_iff.1 e), h.len⟩, h.zero⟩, qW size nodes l (-1) (-1) h.ris h.node⟩
/-- The node at u. -/
theorem xY (u : Int) : ∀ (l : List TSp) (d : Int), fd d l u = d ∨ ∃ x ∈ l, fd d l u = x.f1
  | [], _ => .inl rfl
  | x :: r, d => by
    rw [kZ]
    rcases xY u r (if x.f0 ≤ u then x.f1 else d) with h | ⟨y, hy, h⟩
    · rw [h]
      by_cases hx : x.f0 ≤ u
      · rw [if_pos hx]; exact .inr ⟨x, List.mem_cons_self, rfl⟩
      · rw [if_neg hx]; exact .inl rfl
    · exact .inr ⟨y, List.mem_cons_of_mem _ hy, h⟩
theorem Snd.find {l : List TSp} {size nodes : Int} (h : Snd l size nodes) (u : Int) (hu : 0 ≤ u) : 0 ≤ jQ l u ∧ jQ l u < mn nodes 6 := by
  rw [lD]
  obtain ⟨x, r, rfl⟩ : ∃ x r, l = x :: r := by
    cases l with
    | nil => exact absurd rfl h.ne
    | cons x r => exact ⟨x, r, rfl⟩
  have hz : x.f0 = 0 := h.zero
  rw [kZ, if_pos (by omega)]
  rcases xY u r x.f1 with h1 | ⟨y, hy, h1⟩
  · rw [h1]; exact h.node x List.mem_cons_self
  · rw [h1]; exact h.node y (List.mem_cons_of_mem _ hy)
/-- A sound map is where its own node turns. -/
theorem Snd.cn {l : List TSp} {nodes : Int} {n : Nat} (h : Snd l n nodes) : cn (jQ l) (-1) 0 n = l :=
  qV _ n 0 (-1) l (by rw [Int.zero_add]; exact h.ris) (fun u _ _ => lD l u)
end Go.Proofs.Ytbpdejbkfpkphaa.K
end

section
namespace Go.Proofs.Ytbpdejbkfpkphaa.K
open Go Go.RowKit Go.Proofs.YtbpdejbkfpkphaaW.PrintWords Go.Proofs.YtbpdejbkfpkphaaW.PrintLast Go.Proofs.YtbpdejbkfpkphaaW.PrintMore
theorem lJ (c : Int) : ∀ {l : List TSp}, Asc l → l.filter (fun x => decide (x.f0 < c)) ++ l.filter (fun x => decide (c ≤ x.f0)) = l
  | [], _ => rfl
  | x :: r, h => by
    have hr : Asc r := (List.pairwise_cons.1 h).2
    have hx := (List.pairwise_cons.1 h).1
    by_cases hc : x.f0 < c
    · rw [List.filter_cons_of_pos (by simpa using hc), List.filter_cons_of_neg (by simp; omega), List.cons_append, lJ c hr]
    · rw [List.filter_cons_of_neg (by simpa using hc), List.filter_cons_of_pos (by simp; omega)]
      have h1 : r.filter (fun x => decide (x.f0 < c)) = [] := by
        rw [List.filter_eq_nil_iff]
        intro y hy
        have := hx y hy
        simp; omega
      have h2 := lJ c hr
      rw [h1, List.nil_append] at h2 ⊢
      rw [h2]
theorem oV {d u : Int} : ∀ {l : List TSp}, (∀ x ∈ l, x.f0 ≤ u) → fd d l u = ln1 d l
  | [], _ => rfl
  | x :: r, h => by
    rw [kZ, if_pos (h x List.mem_cons_self)]
    exact oV (d := x.f1) (fun y hy => h y (List.mem_cons_of_mem _ hy))
theorem rE {l : List TSp} (h : Asc l) (c d u : Int) (hu : u < c) : fd d (l.filter (fun x => decide (x.f0 < c))) u = fd d l u := by
  conv => rhs; rw [← lJ c h, lQ]
  exact (lG (fun x hx => by have := (List.mem_filter.1 hx).2; simp at this; omega)).symm
theorem yN {l : List TSp} (h : Asc l) (t u d : Int) (hu : t ≤ u) : fd (fd d l t) (l.filter (fun x => decide (x.f0 > t))) u = fd d l u := by
  have he : (fun x : TSp => decide (x.f0 > t)) = fun x => decide (t + 1 ≤ x.f0) := by
    funext x
    by_cases hx : x.f0 > t
    · simp [hx]; omega
    · simp [hx]; omega
  rw [he]
  conv => rhs; rw [← lJ (t + 1) h, lQ]
  congr 1
  rw [← rE h (t + 1) d t (by omega)]
  have hb : ∀ x ∈ l.filter (fun x => decide (x.f0 < t + 1)), x.f0 ≤ t := fun x hx => by have := (List.mem_filter.1 hx).2; simp at this; omega
  rw [oV hb, oV (fun x hx => by have := hb x hx; omega)]
theorem yA (d : Int) (x : TSp) (u : Int) : fd d [x] u = if x.f0 ≤ u then x.f1 else d := rfl
/-- The node of a member behind a split. -/
theorem zT {l : List TSp} (h : Asc l) (size fr tt node u : Int) (h1 : fr < tt) (h2 : tt ≤ size) (hu : u < size) :
    fd (-1) (mQ l size tt (l.filter (fun x => decide (x.f0 < fr)) ++ [⟨fr, node⟩])) u = if fr ≤ u ∧ u < tt then node else jQ l u := by
  have hab : u < tt → ∀ d, fd d (l.filter (fun x => decide (x.f0 > tt))) u = d := fun hl d => lG (fun x hx => by have := (List.mem_filter.1 hx).2; simp at this; omega)
  have hfr : fd (-1) (l.filter (fun x => decide (x.f0 < fr)) ++ [⟨fr, node⟩]) u = if fr ≤ u then node else jQ l u := by
    rw [lQ, yA]
    by_cases hq : fr ≤ u
    · rw [if_pos hq, if_pos hq]
    · rw [if_neg hq, if_neg hq, rE h fr _ u (by omega), lD]
  unfold mQ
  rw [lQ]
  by_cases ht : tt < size
  · rw [if_pos ht, lQ, yA, hfr]
    by_cases hq : tt ≤ u
    · rw [if_pos hq, if_neg (by omega), lD, yN h tt u _ hq, lD]
    · rw [if_neg hq, hab (by omega)]
      by_cases hr : fr ≤ u
      · rw [if_pos hr, if_pos ⟨hr, by omega⟩]
      · rw [if_neg hr, if_neg (by omega)]
  · rw [if_neg ht, hab (by omega), hfr]
    by_cases hr : fr ≤ u
    · rw [if_pos hr, if_pos ⟨hr, by omega⟩]
    · rw [if_neg hr, if_neg (by omega)]
end Go.Proofs.Ytbpdejbkfpkphaa.K
end

section
namespace Go.Proofs.Ytbpdejbkfpkphaa.K
open Go Go.RowKit Go.Proofs.YtbpdejbkfpkphaaW.PrintWords Go.Proofs.YtbpdejbkfpkphaaW.PrintLast Go.Proofs.YtbpdejbkfpkphaaW.PrintMore
theorem vG {l : List TSp} {size fr tt node : Int} {x : TSp} (h : x ∈ mQ l size tt (l.filter (fun x => decide (x.f0 < fr)) ++ [⟨fr, node⟩])) : x ∈ l ∨ x = ⟨fr, node⟩ ∨ (tt < size ∧ x = ⟨tt, jQ l tt⟩) := by
  unfold mQ at h
  rcases List.mem_append.1 h with h | h
  · by_cases ht : tt < size
    · rw [if_pos ht] at h
      rcases List.mem_append.1 h with h | h
      · rcases List.mem_append.1 h with h | h
        · exact .inl (List.mem_filter.1 h).1
        · exact .inr (.inl (by simpa using h))
      · exact .inr (.inr ⟨ht, by simpa using h⟩)
    · rw [if_neg ht] at h
      rcases List.mem_append.1 h with h | h
      · exact .inl (List.mem_filter.1 h).1
      · exact .inr (.inl (by simpa using h))
  · exact .inl (List.mem_filter.1 h).1
theorem yH {l : List TSp} (h : Asc l) (size fr tt node : Int) (h1 : fr < tt) : Asc (mQ l size tt (l.filter (fun x => decide (x.f0 < fr)) ++ [⟨fr, node⟩])) := by
  have hf : Asc (l.filter (fun x => decide (x.f0 < fr)) ++ [⟨fr, node⟩]) := by
    refine List.pairwise_append.2 ⟨List.Pairwise.filter _ h, List.pairwise_singleton _ _, fun a ha b hb => ?_⟩
    have h2 := (List.mem_filter.1 ha).2
    simp at h2 hb
    subst hb
    exact h2
  have hlt : ∀ a ∈ l.filter (fun x => decide (x.f0 < fr)) ++ [⟨fr, node⟩], a.f0 ≤ fr := by
    intro a ha
    rcases List.mem_append.1 ha with ha | ha
    · have h2 := (List.mem_filter.1 ha).2
      simp at h2; omega
    · simp at ha; subst ha; exact Int.le_refl _
  unfold mQ
  by_cases ht : tt < size
  · rw [if_pos ht]
    refine List.pairwise_append.2 ⟨List.pairwise_append.2 ⟨hf, List.pairwise_singleton _ _, fun a ha b hb => ?_⟩, List.Pairwise.filter _ h, fun a ha b hb => ?_⟩
    · have := hlt a ha
      simp at hb; subst hb
      show a.f0 < tt
      omega
    · have h2 := (List.mem_filter.1 hb).2
      simp at h2
      rcases List.mem_append.1 ha with ha | ha
      · have := hlt a ha; omega
      · simp at ha; subst ha; exact h2
  · rw [if_neg ht]
    refine List.pairwise_append.2 ⟨hf, List.Pairwise.filter _ h, fun a ha b hb => ?_⟩
    have h2 := (List.mem_filter.1 hb).2
    simp at h2
    have := hlt a ha
    omega
/-- Behind a split: the node of each member. -/
def mv (l : List TSp) (fr tt node : Int) (u : Int) : Int := if fr ≤ u ∧ u < tt then node else jQ l u
theorem qU {l : List TSp} {nodes fr tt node : Int} {n : Nat} (h : Snd l n nodes) (h0 : 0 ≤ fr) (h1 : fr < tt) (h2 : tt ≤ n) (h3 : 0 ≤ node) :
    glN (mQ l n tt (l.filter (fun x => decide (x.f0 < fr)) ++ [⟨fr, node⟩])) (mQ l n tt (l.filter (fun x => decide (x.f0 < fr)) ++ [⟨fr, node⟩])).length = cn (mv l fr tt node) (-1) 0 n := by
  refine zQ _ n (yH h.ris.asc n fr tt node h1) (fun x hx => ?_) (fun x hx => ?_) _ (fun u hu0 hu => (zT h.ris.asc n fr tt node u h1 h2 hu).symm)
  · rcases vG hx with hx | rfl | ⟨ht, rfl⟩
    · exact h.ris.lo x hx
    · exact ⟨h0, by show fr < n; omega⟩
    · exact ⟨by show 0 ≤ tt; omega, ht⟩
  · rcases vG hx with hx | rfl | ⟨ht, rfl⟩
    · have := h.node x hx; omega
    · show node ≠ -1; omega
    · show jQ l tt ≠ -1
      have := h.find tt (by omega); omega
end Go.Proofs.Ytbpdejbkfpkphaa.K
end

section
namespace Go.Proofs.Ytbpdejbkfpkphaa.K
open Go Go.RowKit Go.Proofs.YtbpdejbkfpkphaaW.PrintWords Go.Proofs.YtbpdejbkfpkphaaW.PrintLast Go.Proofs.YtbpdejbkfpkphaaW.PrintMore
def okS (l : List TSp) (size nodes fr tt node : Int) : Prop := mZ l size nodes = true ∧ size ≤ 10000 ∧ 0 ≤ fr ∧ fr < tt ∧ tt ≤ size ∧ 0 ≤ node ∧ node < mn nodes 6
open Classical in
noncomputable def lS (a : Int) (l : List TSp) (size nodes fr tt node : Int) : Int × List TSp × Int :=
  if okS l size nodes fr tt node ∧ lH l fr tt ≠ [node] then xC a (mQ l size tt (l.filter (fun x => decide (x.f0 < fr)) ++ [⟨fr, node⟩])) else (0, [], 120)
end Go.Proofs.Ytbpdejbkfpkphaa.K
end

section
namespace Go.Proofs.Ytbpdejbkfpkphaa.K
open Go.RowKit Go.Proofs.YtbpdejbkfpkphaaW.PrintWords Go.Proofs.YtbpdejbkfpkphaaW.PrintLast Go.Proofs.YtbpdejbkfpkphaaW.PrintMore
attribute [local go_sem] jU jT jZ jY jO jP jW jV
mutual
def stratumref12_Sound.l0 : Nat → Int → Int → Int → Int → List (S60) → Option (Bool)
  | 0, _, _, _, _, _ => none
  | k + 1, x1, x2, x7, x330000, x330001 => if x7 < (x330001.length : Int) then (if 0 ≤ x7 then (if ((iT x330001 x7).f1) < 0 then (stratumref12_Sound.j1 k x1 x2 x7 true x330000 x330001) else (if ((iT x330001 x7).f1) ≥ (mn x2 6) then (stratumref12_Sound.j1 k x1 x2 x7 true x330000 x330001) else (if ((iT x330001 x7).f0) ≥ x1 then (stratumref12_Sound.j1 k x1 x2 x7 true x330000 x330001) else (if x7 = 0 then (stratumref12_Sound.j1 k x1 x2 x7 (((iT x330001 x7).f0) != 0) x330000 x330001) else (stratumref12_Sound.j1 k x1 x2 x7 false x330000 x330001))))) else (none)) else (if (x330001.length : Int) ≥ 1 then (some (decide ((x330001.length : Int) ≤ 40))) else (some false))
def stratumref12_Sound.j1 : Nat → Int → Int → Int → Bool → Int → List (S60) → Option (Bool)
  | 0, _, _, _, _, _, _ => none
  | k + 1, x1, x2, x7, x55, x330000, x330001 => if x55 = true then (some false) else (if x7 > 0 then (if 0 ≤ x7 then (if x7 < (x330001.length : Int) then (if 0 ≤ (wrap64 (x7 - 1)) then (if (wrap64 (x7 - 1)) < (x330001.length : Int) then (if ((iT x330001 x7).f0) ≤ ((iT x330001 (wrap64 (x7 - 1))).f0) then (some false) else (if ((iT x330001 x7).f1) = ((iT x330001 (wrap64 (x7 - 1))).f1) then (some false) else (stratumref12_Sound.l0 k x1 x2 (wrap64 (x7 + 1)) x330000 x330001))) else (none)) else (none)) else (none)) else (none)) else (stratumref12_Sound.l0 k x1 x2 (wrap64 (x7 + 1)) x330000 x330001))
end
def stratumref12_Sound.f (k : Nat) (a0_0 : Int) (l0_1 : List (S60)) (a1 : Int) (a2 : Int) : Option (Bool) := stratumref12_Sound.l0 k a1 a2 0 a0_0 l0_1
theorem stratumref12_Sound.mono_l : ∀ k, (∀ y0 y1 y2 y3 y4, LeO (stratumref12_Sound.l0 k y0 y1 y2 y3 y4) (stratumref12_Sound.l0 (k + 1) y0 y1 y2 y3 y4)) ∧ (∀ y0 y1 y2 y3 y4 y5, LeO (stratumref12_Sound.j1 k y0 y1 y2 y3 y4 y5) (stratumref12_Sound.j1 (k + 1) y0 y1 y2 y3 y4 y5))
  | 0 => ⟨fun _ _ _ _ _ r h => by simp [stratumref12_Sound.l0] at h, fun _ _ _ _ _ _ r h => by simp [stratumref12_Sound.j1] at h⟩
  | k + 1 => by
    obtain ⟨ih0, ih1⟩ := stratumref12_Sound.mono_l k
    refine ⟨?_, ?_⟩
    · intro y0 y1 y2 y3 y4
      unfold stratumref12_Sound.l0
      repeat' first
      | (with_reducible exact ih0 _ _ _ _ _)
      | (with_reducible exact ih1 _ _ _ _ _ _)
      | (with_reducible exact LeO.refl _)
      | (with_reducible exact LeO.none _)
      | (with_reducible refine LeO.ite ?_ ?_)
      | (with_reducible refine LeO.bind ?_ (fun _ => ?_))
      | exact ih0 _ _ _ _ _
      | exact ih1 _ _ _ _ _ _
      | exact LeO.none _
      | refine LeO.ite ?_ ?_
      | refine LeO.bind ?_ (fun _ => ?_)
    · intro y0 y1 y2 y3 y4 y5
      unfold stratumref12_Sound.j1
      repeat' first
      | (with_reducible exact ih0 _ _ _ _ _)
      | (with_reducible exact ih1 _ _ _ _ _ _)
      | (with_reducible exact LeO.refl _)
      | (with_reducible exact LeO.none _)
      | (with_reducible refine LeO.ite ?_ ?_)
      | (with_reducible refine LeO.bind ?_ (fun _ => ?_))
      | exact ih0 _ _ _ _ _
      | exact ih1 _ _ _ _ _ _
      | exact LeO.none _
      | refine LeO.ite ?_ ?_
      | refine LeO.bind ?_ (fun _ => ?_)
theorem stratumref12_Sound.mono : ∀ a0 a1 a2 a3 k, LeO (stratumref12_Sound.f k a0 a1 a2 a3) (stratumref12_Sound.f (k + 1) a0 a1 a2 a3) := by
  intro a0 a1 a2 a3 k
  obtain ⟨ih0, ih1⟩ := stratumref12_Sound.mono_l k
  unfold stratumref12_Sound.f
  repeat' first
      | (with_reducible exact ih0 _ _ _ _ _)
      | (with_reducible exact ih1 _ _ _ _ _ _)
      | (with_reducible exact LeO.refl _)
      | (with_reducible exact LeO.none _)
      | (with_reducible refine LeO.ite ?_ ?_)
      | (with_reducible refine LeO.bind ?_ (fun _ => ?_))
      | exact ih0 _ _ _ _ _
      | exact ih1 _ _ _ _ _ _
      | exact LeO.none _
      | refine LeO.ite ?_ ?_
      | refine LeO.bind ?_ (fun _ => ?_)
set_option maxHeartbeats 8000000 in
set_option maxRecDepth 100000 in
theorem stratumref12_Sound.calls (k : Nat) (a0_0 : Int) (A0_1 : Option Addr) (c0_1 : Nat) (l0_1 : List (S60)) (a1 : Int) (a2 : Int) (r : Bool) (w : World) (hr0_1 : Kd.C k60 w A0_1 l0_1.length l0_1) (hc0_1 : l0_1.length ≤ c0_1) (h : stratumref12_Sound.f k a0_0 l0_1 a1 a2 = some r) :
    Calls Try.prog 34 #[.agg #[.int .u32 a0_0, .slice A0_1 l0_1.length c0_1], .int .i64 a1, .int .i64 a2] w fun e w' => e = .returned (.bool r) ∧ Below w.heap.size w w' := by
  have hu42 := Try.underlying42
  have HR0_1 := iC.mk hr0_1
  have HC0_1 := iC.mk hc0_1
  clear hr0_1 hc0_1
  have HB := iC.mk (Below.refl w.heap.size w)
  have H : (stratumref12_Sound.l0 k a1 a2 0 a0_0 l0_1) = some r := h
  clear h
  have H' := iC.mk H
  clear H
  go_enter Try.func34, Try.ntmps34
  go_wp2_with (first | ((with_reducible refine jC (N := 3) rfl ?_); (try (refine iW (by rfl) ?_; dsimp only)); refine jA ?hg (N := 3) ?hd (cs := #[.int .u32 a0_0, .slice A0_1 l0_1.length c0_1]) (t := 42) ?hr ?_; (case hd => rfl); (case hg => rfl); (case hr => first | (go_simp; done) | (go_simp; rfl)); intro gb329 hg w4 hbox hb; have n0_ := iC.mk (iK hb_ hb); have n1_ := iC.mk (hbox); have n2_ := iC.mk ((by rw [hg]; exact (iJ hb_) : w.heap.size ≤ gb329)); have n3_ := iC.mk ((by rw [hg]; exact (iJ hb_) : w.heap.size ≤ gb329)); clear HB; have HB := n0_; have BK329 := n1_; have GW329 := n2_; have GE329 := n3_; clear n0_ n1_ n2_ n3_; clear hb hbox hg))
  repeat (go_quiet (first | ((with_reducible refine jC (N := 3) rfl ?_); (try (refine iW (by rfl) ?_; dsimp only)); refine jA ?hg (N := 3) ?hd (cs := #[.int .u32 a0_0, .slice A0_1 l0_1.length c0_1]) (t := 42) ?hr ?_; (case hd => rfl); (case hg => rfl); (case hr => first | (go_simp; done) | (go_simp; rfl)); intro gb329 hg w4 hbox hb; have n0_ := iC.mk (iK hb_ hb); have n1_ := iC.mk (hbox); have n2_ := iC.mk ((by rw [hg]; exact (iJ hb_) : w.heap.size ≤ gb329)); have n3_ := iC.mk ((by rw [hg]; exact (iJ hb_) : w.heap.size ≤ gb329)); clear HB; have HB := n0_; have BK329 := n1_; have GW329 := n2_; have GE329 := n3_; clear n0_ n1_ n2_ n3_; clear hb hbox hg)); try go_wp2_with (first | ((with_reducible refine jC (N := 3) rfl ?_); (try (refine iW (by rfl) ?_; dsimp only)); refine jA ?hg (N := 3) ?hd (cs := #[.int .u32 a0_0, .slice A0_1 l0_1.length c0_1]) (t := 42) ?hr ?_; (case hd => rfl); (case hg => rfl); (case hr => first | (go_simp; done) | (go_simp; rfl)); intro gb329 hg w4 hbox hb; have n0_ := iC.mk (iK hb_ hb); have n1_ := iC.mk (hbox); have n2_ := iC.mk ((by rw [hg]; exact (iJ hb_) : w.heap.size ≤ gb329)); have n3_ := iC.mk ((by rw [hg]; exact (iJ hb_) : w.heap.size ≤ gb329)); clear HB; have HB := n0_; have BK329 := n1_; have GW329 := n2_; have GE329 := n3_; clear n0_ n1_ n2_ n3_; clear hb hbox hg)))
  go_loopg [7] k (fun kq v7 w' => ∃ (x7_1 : Int), v7 = .int .i64 x7_1 ∧ iC (stratumref12_Sound.l0 kq a1 a2 x7_1 a0_0 l0_1 = some r) ∧ iC (kq ≤ k) ∧ iC (w'.heap[gb329]? = some (.cells #[.int .u32 a0_0, (.slice A0_1 l0_1.length c0_1)] 42 (0, 0))) ∧ iC (Below w.heap.size w w'))
  case atStart => exact ⟨(0), (by first | rfl | (simp; done) | (simp [*]; done)), H', ⟨Nat.le_refl _⟩, ⟨bk_ BK329.out⟩, ⟨by repeat (first | (with_reducible first | exact HB.out | apply iF | apply iD | apply iG | refine iE ?_ GE329.out) | exact HB.out)⟩⟩
  case round =>
    clear H'
    try clear p2
    try clear c3
    obtain ⟨x7_1, rfl, HA, HK1, BK329, HB⟩ := hrel
    cases gk with
    | zero => exact absurd HA.out (by simp [stratumref12_Sound.l0])
    | succ k1 =>
      have H := HA.out
      clear HA
      simp only [stratumref12_Sound.l0] at H
      by_cases c5 : x7_1 < (l0_1.length : Int)
      · rw [if_pos c5] at H
        have c5b0 : decide (x7_1 < (l0_1.length : Int)) = true := decide_eq_true c5
        clear c5
        have HC6 := iC.mk H
        clear H
        have hcz7_0 : wr.cell? ⟨gb329, 0, none⟩ = some (.int .u32 a0_0) := (iI BK329.out 0).trans rfl
        have hcz7_1 : wr.cell? ⟨gb329, 1, none⟩ = some (.slice A0_1 l0_1.length c0_1) := (iI BK329.out 1).trans rfl
        have hfz7_0 := iH BK329.out 0
        have hfz7_1 := iH BK329.out 1
        go_upto_region 4 with (fail)
        repeat (go_quiet (fail); go_upto_region 4 with (fail))
        go_cut [55] (fun v55 wc => ∃ (kq : Nat) (x55_5 : Bool), v55 = .bool x55_5 ∧ iC (stratumref12_Sound.j1 kq a1 a2 x7_1 x55_5 a0_0 l0_1 = some r) ∧ iC (kq ≤ k1) ∧ iC (wc.heap[gb329]? = some (.cells #[.int .u32 a0_0, (.slice A0_1 l0_1.length c0_1)] 42 (0, 0))) ∧ iC (Below w.heap.size w wc))
        case first =>
          have H := HC6.out
          clear HC6
          by_cases c8 : 0 ≤ x7_1
          · rw [if_pos c8] at H
            have c8b0 : decide (0 ≤ x7_1) = true := decide_eq_true c8
            clear c8
            (first | rw [c8b0] | (simp only [iY, iZ]; rw [c8b0]) | skip)
            by_cases c9 : ((iT l0_1 x7_1).f1) < 0
            · rw [if_pos c9] at H
              have c9b0 : decide (((iT l0_1 x7_1).f1) < 0) = true := decide_eq_true c9
              clear c9
              have H' := iC.mk H
              clear H
              have hcz10_0 : wr.cell? ⟨gb329, 0, none⟩ = some (.int .u32 a0_0) := (iI BK329.out 0).trans rfl
              have hcz10_1 : wr.cell? ⟨gb329, 1, none⟩ = some (.slice A0_1 l0_1.length c0_1) := (iI BK329.out 1).trans rfl
              have hfz10_0 := iH BK329.out 0
              have hfz10_1 := iH BK329.out 1
              have p330 : 0 ≤ (x7_1 : Int) := of_decide_eq_true asm_
              have q330 : x7_1 < (l0_1.length : Int) := of_decide_eq_true asm_
              obtain ⟨ad330, e330, hx330_0, hx330_1⟩ := jK HR0_1.out x7_1 p330 q330
              cases e330
              replace hx330_0 := (HB.out.cell (World.block_lt_of_cell? w _ hx330_0)).trans hx330_0
              replace hx330_1 := (HB.out.cell (World.block_lt_of_cell? w _ hx330_1)).trans hx330_1
              replace p330 := eq_true p330
              replace q330 := eq_true q330
              go_wp2
              repeat (go_quiet (fail); try go_wp2)
              go_meet
              case rel => exact ⟨_, (true), (by first | rfl | (simp; done) | (simp [*]; done)), H', ⟨by have := HK1.out; first | omega | exact Nat.le_refl _⟩, ⟨bk_ BK329.out⟩, ⟨by repeat (first | (with_reducible first | exact HB.out | apply iF | apply iD | apply iG | refine iE ?_ GE329.out) | exact HB.out)⟩⟩
            · rw [if_neg c9] at H
              have c9b0 : decide (((iT l0_1 x7_1).f1) < 0) = false := decide_eq_false c9
              clear c9
              obtain ⟨ji11, hji11⟩ : ∃ j_ : Int, (mn a2 6) = j_ := ⟨_, rfl⟩
              replace H : (if ((iT l0_1 x7_1).f1) ≥ (ji11) then (stratumref12_Sound.j1 k1 a1 a2 x7_1 true a0_0 l0_1) else (if ((iT l0_1 x7_1).f0) ≥ a1 then (stratumref12_Sound.j1 k1 a1 a2 x7_1 true a0_0 l0_1) else (if x7_1 = 0 then (stratumref12_Sound.j1 k1 a1 a2 x7_1 (((iT l0_1 x7_1).f0) != 0) a0_0 l0_1) else (stratumref12_Sound.j1 k1 a1 a2 x7_1 false a0_0 l0_1)))) = some r := by first | (rw [hji11] at H; exact H) | (simp only [hji11] at H ⊢; exact H)
              (try (have hji11h : ji11 ≤ 6 := by (rw [← hji11]; unfold mn; (repeat' split) <;> omega)))
              (try (have hji11g : ji11 ≤ 64 := by omega))
              have hji11_ : (if 6 < a2 then 6 else a2) = ji11 := hji11
              by_cases c12 : ((iT l0_1 x7_1).f1) ≥ (ji11)
              · rw [if_pos c12] at H
                have c12b0 : decide ((ji11) ≤ ((iT l0_1 x7_1).f1)) = true := decide_eq_true c12
                clear c12
                have H' := iC.mk H
                clear H
                have hcz13_0 : wr.cell? ⟨gb329, 0, none⟩ = some (.int .u32 a0_0) := (iI BK329.out 0).trans rfl
                have hcz13_1 : wr.cell? ⟨gb329, 1, none⟩ = some (.slice A0_1 l0_1.length c0_1) := (iI BK329.out 1).trans rfl
                have hfz13_0 := iH BK329.out 0
                have hfz13_1 := iH BK329.out 1
                have p330 : 0 ≤ (x7_1 : Int) := of_decide_eq_true asm_
                have q330 : x7_1 < (l0_1.length : Int) := of_decide_eq_true asm_
                obtain ⟨ad330, e330, hx330_0, hx330_1⟩ := jK HR0_1.out x7_1 p330 q330
                cases e330
                replace hx330_0 := (HB.out.cell (World.block_lt_of_cell? w _ hx330_0)).trans hx330_0
                replace hx330_1 := (HB.out.cell (World.block_lt_of_cell? w _ hx330_1)).trans hx330_1
                replace p330 := eq_true p330
                replace q330 := eq_true q330
                have p331 : 0 ≤ (x7_1 : Int) := of_decide_eq_true asm_
                have q331 : x7_1 < (l0_1.length : Int) := of_decide_eq_true asm_
                obtain ⟨ad331, e331, hx331_0, hx331_1⟩ := jK HR0_1.out x7_1 p331 q331
                obtain rfl : ad330 = ad331 := (by injection e331)
                replace hx331_0 := (HB.out.cell (World.block_lt_of_cell? w _ hx331_0)).trans hx331_0
                replace hx331_1 := (HB.out.cell (World.block_lt_of_cell? w _ hx331_1)).trans hx331_1
                replace p331 := eq_true p331
                replace q331 := eq_true q331
                go_wp2
                repeat (go_quiet (fail); try go_wp2)
                go_meet
                case rel => exact ⟨_, (true), (by first | rfl | (simp; done) | (simp [*]; done)), H', ⟨by have := HK1.out; first | omega | exact Nat.le_refl _⟩, ⟨bk_ BK329.out⟩, ⟨by repeat (first | (with_reducible first | exact HB.out | apply iF | apply iD | apply iG | refine iE ?_ GE329.out) | exact HB.out)⟩⟩
              · rw [if_neg c12] at H
                have c12b0 : decide ((ji11) ≤ ((iT l0_1 x7_1).f1)) = false := decide_eq_false c12
                clear c12
                by_cases c14 : ((iT l0_1 x7_1).f0) ≥ a1
                · rw [if_pos c14] at H
                  have c14b0 : decide (a1 ≤ ((iT l0_1 x7_1).f0)) = true := decide_eq_true c14
                  clear c14
                  have H' := iC.mk H
                  clear H
                  have hcz15_0 : wr.cell? ⟨gb329, 0, none⟩ = some (.int .u32 a0_0) := (iI BK329.out 0).trans rfl
                  have hcz15_1 : wr.cell? ⟨gb329, 1, none⟩ = some (.slice A0_1 l0_1.length c0_1) := (iI BK329.out 1).trans rfl
                  have hfz15_0 := iH BK329.out 0
                  have hfz15_1 := iH BK329.out 1
                  have p330 : 0 ≤ (x7_1 : Int) := of_decide_eq_true asm_
                  have q330 : x7_1 < (l0_1.length : Int) := of_decide_eq_true asm_
                  obtain ⟨ad330, e330, hx330_0, hx330_1⟩ := jK HR0_1.out x7_1 p330 q330
                  cases e330
                  replace hx330_0 := (HB.out.cell (World.block_lt_of_cell? w _ hx330_0)).trans hx330_0
                  replace hx330_1 := (HB.out.cell (World.block_lt_of_cell? w _ hx330_1)).trans hx330_1
                  replace p330 := eq_true p330
                  replace q330 := eq_true q330
                  have p331 : 0 ≤ (x7_1 : Int) := of_decide_eq_true asm_
                  have q331 : x7_1 < (l0_1.length : Int) := of_decide_eq_true asm_
                  obtain ⟨ad331, e331, hx331_0, hx331_1⟩ := jK HR0_1.out x7_1 p331 q331
                  obtain rfl : ad330 = ad331 := (by injection e331)
                  replace hx331_0 := (HB.out.cell (World.block_lt_of_cell? w _ hx331_0)).trans hx331_0
                  replace hx331_1 := (HB.out.cell (World.block_lt_of_cell? w _ hx331_1)).trans hx331_1
                  replace p331 := eq_true p331
                  replace q331 := eq_true q331
                  have p332 : 0 ≤ (x7_1 : Int) := of_decide_eq_true asm_
                  have q332 : x7_1 < (l0_1.length : Int) := of_decide_eq_true asm_
                  obtain ⟨ad332, e332, hx332_0, hx332_1⟩ := jK HR0_1.out x7_1 p332 q332
                  obtain rfl : ad330 = ad332 := (by injection e332)
                  replace hx332_0 := (HB.out.cell (World.block_lt_of_cell? w _ hx332_0)).trans hx332_0
                  replace hx332_1 := (HB.out.cell (World.block_lt_of_cell? w _ hx332_1)).trans hx332_1
                  replace p332 := eq_true p332
                  replace q332 := eq_true q332
                  go_wp2
                  repeat (go_quiet (fail); try go_wp2)
                  go_meet
                  case rel => exact ⟨_, (true), (by first | rfl | (simp; done) | (simp [*]; done)), H', ⟨by have := HK1.out; first | omega | exact Nat.le_refl _⟩, ⟨bk_ BK329.out⟩, ⟨by repeat (first | (with_reducible first | exact HB.out | apply iF | apply iD | apply iG | refine iE ?_ GE329.out) | exact HB.out)⟩⟩
                · rw [if_neg c14] at H
                  have c14b0 : decide (a1 ≤ ((iT l0_1 x7_1).f0)) = false := decide_eq_false c14
                  clear c14
                  by_cases c16 : x7_1 = 0
                  · rw [if_pos c16] at H
                    have c16b0 : (x7_1 == 0) = true := beq_iff_eq.mpr c16
                    have c16b1 : (x7_1 != 0) = false := bne_eq_false_iff_eq.mpr c16
                    clear c16
                    have H' := iC.mk H
                    clear H
                    have hcz17_0 : wr.cell? ⟨gb329, 0, none⟩ = some (.int .u32 a0_0) := (iI BK329.out 0).trans rfl
                    have hcz17_1 : wr.cell? ⟨gb329, 1, none⟩ = some (.slice A0_1 l0_1.length c0_1) := (iI BK329.out 1).trans rfl
                    have hfz17_0 := iH BK329.out 0
                    have hfz17_1 := iH BK329.out 1
                    have p330 : 0 ≤ (x7_1 : Int) := of_decide_eq_true asm_
                    have q330 : x7_1 < (l0_1.length : Int) := of_decide_eq_true asm_
                    obtain ⟨ad330, e330, hx330_0, hx330_1⟩ := jK HR0_1.out x7_1 p330 q330
                    cases e330
                    replace hx330_0 := (HB.out.cell (World.block_lt_of_cell? w _ hx330_0)).trans hx330_0
                    replace hx330_1 := (HB.out.cell (World.block_lt_of_cell? w _ hx330_1)).trans hx330_1
                    replace p330 := eq_true p330
                    replace q330 := eq_true q330
                    have p331 : 0 ≤ (x7_1 : Int) := of_decide_eq_true asm_
                    have q331 : x7_1 < (l0_1.length : Int) := of_decide_eq_true asm_
                    obtain ⟨ad331, e331, hx331_0, hx331_1⟩ := jK HR0_1.out x7_1 p331 q331
                    obtain rfl : ad330 = ad331 := (by injection e331)
                    replace hx331_0 := (HB.out.cell (World.block_lt_of_cell? w _ hx331_0)).trans hx331_0
                    replace hx331_1 := (HB.out.cell (World.block_lt_of_cell? w _ hx331_1)).trans hx331_1
                    replace p331 := eq_true p331
                    replace q331 := eq_true q331
                    have p332 : 0 ≤ (x7_1 : Int) := of_decide_eq_true asm_
                    have q332 : x7_1 < (l0_1.length : Int) := of_decide_eq_true asm_
                    obtain ⟨ad332, e332, hx332_0, hx332_1⟩ := jK HR0_1.out x7_1 p332 q332
                    obtain rfl : ad330 = ad332 := (by injection e332)
                    replace hx332_0 := (HB.out.cell (World.block_lt_of_cell? w _ hx332_0)).trans hx332_0
                    replace hx332_1 := (HB.out.cell (World.block_lt_of_cell? w _ hx332_1)).trans hx332_1
                    replace p332 := eq_true p332
                    replace q332 := eq_true q332
                    have p333 : 0 ≤ (x7_1 : Int) := of_decide_eq_true asm_
                    have q333 : x7_1 < (l0_1.length : Int) := of_decide_eq_true asm_
                    obtain ⟨ad333, e333, hx333_0, hx333_1⟩ := jK HR0_1.out x7_1 p333 q333
                    obtain rfl : ad330 = ad333 := (by injection e333)
                    replace hx333_0 := (HB.out.cell (World.block_lt_of_cell? w _ hx333_0)).trans hx333_0
                    replace hx333_1 := (HB.out.cell (World.block_lt_of_cell? w _ hx333_1)).trans hx333_1
                    replace p333 := eq_true p333
                    replace q333 := eq_true q333
                    go_wp2
                    repeat (go_quiet (fail); try go_wp2)
                    go_meet
                    case rel => exact ⟨_, ((((iT l0_1 x7_1).f0) != 0)), (by first | rfl | (simp; done) | (simp [*]; done)), H', ⟨by have := HK1.out; first | omega | exact Nat.le_refl _⟩, ⟨bk_ BK329.out⟩, ⟨by repeat (first | (with_reducible first | exact HB.out | apply iF | apply iD | apply iG | refine iE ?_ GE329.out) | exact HB.out)⟩⟩
                  · rw [if_neg c16] at H
                    have c16b0 : (x7_1 == 0) = false := beq_eq_false_iff_ne.mpr c16
                    have c16b1 : (x7_1 != 0) = true := bne_iff_ne.mpr c16
                    have H' := iC.mk H
                    clear H
                    have hcz18_0 : wr.cell? ⟨gb329, 0, none⟩ = some (.int .u32 a0_0) := (iI BK329.out 0).trans rfl
                    have hcz18_1 : wr.cell? ⟨gb329, 1, none⟩ = some (.slice A0_1 l0_1.length c0_1) := (iI BK329.out 1).trans rfl
                    have hfz18_0 := iH BK329.out 0
                    have hfz18_1 := iH BK329.out 1
                    have p330 : 0 ≤ (x7_1 : Int) := of_decide_eq_true asm_
                    have q330 : x7_1 < (l0_1.length : Int) := of_decide_eq_true asm_
                    obtain ⟨ad330, e330, hx330_0, hx330_1⟩ := jK HR0_1.out x7_1 p330 q330
                    cases e330
                    replace hx330_0 := (HB.out.cell (World.block_lt_of_cell? w _ hx330_0)).trans hx330_0
                    replace hx330_1 := (HB.out.cell (World.block_lt_of_cell? w _ hx330_1)).trans hx330_1
                    replace p330 := eq_true p330
                    replace q330 := eq_true q330
                    have p331 : 0 ≤ (x7_1 : Int) := of_decide_eq_true asm_
                    have q331 : x7_1 < (l0_1.length : Int) := of_decide_eq_true asm_
                    obtain ⟨ad331, e331, hx331_0, hx331_1⟩ := jK HR0_1.out x7_1 p331 q331
                    obtain rfl : ad330 = ad331 := (by injection e331)
                    replace hx331_0 := (HB.out.cell (World.block_lt_of_cell? w _ hx331_0)).trans hx331_0
                    replace hx331_1 := (HB.out.cell (World.block_lt_of_cell? w _ hx331_1)).trans hx331_1
                    replace p331 := eq_true p331
                    replace q331 := eq_true q331
                    have p332 : 0 ≤ (x7_1 : Int) := of_decide_eq_true asm_
                    have q332 : x7_1 < (l0_1.length : Int) := of_decide_eq_true asm_
                    obtain ⟨ad332, e332, hx332_0, hx332_1⟩ := jK HR0_1.out x7_1 p332 q332
                    obtain rfl : ad330 = ad332 := (by injection e332)
                    replace hx332_0 := (HB.out.cell (World.block_lt_of_cell? w _ hx332_0)).trans hx332_0
                    replace hx332_1 := (HB.out.cell (World.block_lt_of_cell? w _ hx332_1)).trans hx332_1
                    replace p332 := eq_true p332
                    replace q332 := eq_true q332
                    go_wp2
                    repeat (go_quiet (fail); try go_wp2)
                    go_meet
                    case rel => exact ⟨_, (false), (by first | rfl | (simp; done) | (simp [*]; done)), H', ⟨by have := HK1.out; first | omega | exact Nat.le_refl _⟩, ⟨bk_ BK329.out⟩, ⟨by repeat (first | (with_reducible first | exact HB.out | apply iF | apply iD | apply iG | refine iE ?_ GE329.out) | exact HB.out)⟩⟩
          · rw [if_neg c8] at H
            exact absurd H (by simp)
        case rest =>
          clear HC6
          try clear c1
          try clear p2
          try clear c3
          try clear p3
          try clear q3
          try clear hx3
          try clear c5
          try clear c5b0
          try clear c8
          try clear c8b0
          try clear c9
          try clear c9b0
          try clear c12
          try clear c12b0
          try clear c14
          try clear c14b0
          try clear c16
          try clear c16b0
          try clear c16b1
          try clear hcz10_0
          try clear hcz10_1
          try clear hcz13_0
          try clear hcz13_1
          try clear hcz15_0
          try clear hcz15_1
          try clear hcz17_0
          try clear hcz17_1
          try clear hcz18_0
          try clear hcz18_1
          try clear hcz7_0
          try clear hcz7_1
          try clear hfz10_0
          try clear hfz10_1
          try clear hfz13_0
          try clear hfz13_1
          try clear hfz15_0
          try clear hfz15_1
          try clear hfz17_0
          try clear hfz17_1
          try clear hfz18_0
          try clear hfz18_1
          try clear hfz7_0
          try clear hfz7_1
          try clear hx330_0
          try clear hx330_1
          try clear hx331_0
          try clear hx331_1
          try clear hx332_0
          try clear hx332_1
          try clear hx333_0
          try clear hx333_1
          try clear p2
          try clear p330
          try clear p331
          try clear p332
          try clear p333
          try clear q330
          try clear q331
          try clear q332
          try clear q333
          obtain ⟨kq, x55_5, rfl, HA, HJ5, BK329, HB⟩ := hcut
          cases kq with
          | zero => exact absurd HA.out (by simp [stratumref12_Sound.j1])
          | succ kj5 =>
            have H := HA.out
            clear HA
            simp only [stratumref12_Sound.j1] at H
            by_cases c19 : x55_5 = true
            · subst c19
              have H1 : (some false) = some r := by rw [if_pos rfl] at H; exact H
              clear H
              have H := H1
              clear H1
              obtain rfl := Option.some.inj H
              go_wp2
              repeat (go_quiet (fail); try go_wp2)
              go_ret
              exact ⟨by first | rfl | (simp [iR, iQ] <;> rfl) | (simp [*, iR, iQ] <;> rfl), by repeat (first | (with_reducible first | exact HB.out | apply iF | apply iD | apply iG | refine iE ?_ GE329.out) | exact HB.out)⟩
            · replace c19 := Bool.eq_false_iff.mpr c19
              subst c19
              have H1 : (if x7_1 > 0 then (if 0 ≤ x7_1 then (if x7_1 < (l0_1.length : Int) then (if 0 ≤ (wrap64 (x7_1 - 1)) then (if (wrap64 (x7_1 - 1)) < (l0_1.length : Int) then (if ((iT l0_1 x7_1).f0) ≤ ((iT l0_1 (wrap64 (x7_1 - 1))).f0) then (some false) else (if ((iT l0_1 x7_1).f1) = ((iT l0_1 (wrap64 (x7_1 - 1))).f1) then (some false) else (stratumref12_Sound.l0 kj5 a1 a2 (wrap64 (x7_1 + 1)) a0_0 l0_1))) else (none)) else (none)) else (none)) else (none)) else (stratumref12_Sound.l0 kj5 a1 a2 (wrap64 (x7_1 + 1)) a0_0 l0_1)) = some r := by rw [if_neg (show ¬ (false = true) by decide)] at H; exact H
              clear H
              have H := H1
              clear H1
              by_cases c20 : x7_1 > 0
              · rw [if_pos c20] at H
                have c20b0 : decide (0 < x7_1) = true := decide_eq_true c20
                clear c20
                by_cases c21 : 0 ≤ x7_1
                · rw [if_pos c21] at H
                  have c21b0 : decide (0 ≤ x7_1) = true := decide_eq_true c21
                  clear c21
                  by_cases c22 : x7_1 < (l0_1.length : Int)
                  · rw [if_pos c22] at H
                    have c22b0 : decide (x7_1 < (l0_1.length : Int)) = true := decide_eq_true c22
                    clear c22
                    obtain ⟨ji23, hji23⟩ : ∃ j_ : Int, (wrap64 (x7_1 - 1)) = j_ := ⟨_, rfl⟩
                    replace H : (if 0 ≤ (ji23) then (if (ji23) < (l0_1.length : Int) then (if ((iT l0_1 x7_1).f0) ≤ ((iT l0_1 (ji23)).f0) then (some false) else (if ((iT l0_1 x7_1).f1) = ((iT l0_1 (ji23)).f1) then (some false) else (stratumref12_Sound.l0 kj5 a1 a2 (wrap64 (x7_1 + 1)) a0_0 l0_1))) else (none)) else (none)) = some r := by first | (rw [hji23] at H; exact H) | (simp only [hji23] at H ⊢; exact H)
                    have hji23w : (IntKind.i64.wrap (x7_1 - 1)) = ji23 := (iY _).trans hji23
                    by_cases c24 : 0 ≤ (ji23)
                    · rw [if_pos c24] at H
                      have c24b0 : decide (0 ≤ (ji23)) = true := decide_eq_true c24
                      clear c24
                      by_cases c25 : (ji23) < (l0_1.length : Int)
                      · rw [if_pos c25] at H
                        have c25b0 : decide ((ji23) < (l0_1.length : Int)) = true := decide_eq_true c25
                        clear c25
                        by_cases c26 : ((iT l0_1 x7_1).f0) ≤ ((iT l0_1 (ji23)).f0)
                        · rw [if_pos c26] at H
                          have c26b0 : decide (((iT l0_1 x7_1).f0) ≤ ((iT l0_1 (ji23)).f0)) = true := decide_eq_true c26
                          clear c26
                          obtain rfl := Option.some.inj H
                          have hcz27_0 : wc.cell? ⟨gb329, 0, none⟩ = some (.int .u32 a0_0) := (iI BK329.out 0).trans rfl
                          have hcz27_1 : wc.cell? ⟨gb329, 1, none⟩ = some (.slice A0_1 l0_1.length c0_1) := (iI BK329.out 1).trans rfl
                          have hfz27_0 := iH BK329.out 0
                          have hfz27_1 := iH BK329.out 1
                          have p334 : 0 ≤ (x7_1 : Int) := of_decide_eq_true asm_
                          have q334 : x7_1 < (l0_1.length : Int) := of_decide_eq_true asm_
                          obtain ⟨ad334, e334, hx334_0, hx334_1⟩ := jK HR0_1.out x7_1 p334 q334
                          cases e334
                          replace hx334_0 := (HB.out.cell (World.block_lt_of_cell? w _ hx334_0)).trans hx334_0
                          replace hx334_1 := (HB.out.cell (World.block_lt_of_cell? w _ hx334_1)).trans hx334_1
                          replace p334 := eq_true p334
                          replace q334 := eq_true q334
                          have p335 : 0 ≤ ((ji23) : Int) := of_decide_eq_true asm_
                          have q335 : (ji23) < (l0_1.length : Int) := of_decide_eq_true asm_
                          obtain ⟨ad335, e335, hx335_0, hx335_1⟩ := jK HR0_1.out (ji23) p335 q335
                          obtain rfl : ad334 = ad335 := (by injection e335)
                          replace hx335_0 := (HB.out.cell (World.block_lt_of_cell? w _ hx335_0)).trans hx335_0
                          replace hx335_1 := (HB.out.cell (World.block_lt_of_cell? w _ hx335_1)).trans hx335_1
                          replace p335 := eq_true p335
                          replace q335 := eq_true q335
                          go_wp2
                          repeat (go_quiet (fail); try go_wp2)
                          go_ret
                          exact ⟨by first | rfl | (simp [iR, iQ] <;> rfl) | (simp only [← hji23]; first | rfl | (simp [iR, iQ] <;> rfl)) | (simp [*, iR, iQ] <;> rfl), by repeat (first | (with_reducible first | exact HB.out | apply iF | apply iD | apply iG | refine iE ?_ GE329.out) | exact HB.out)⟩
                        · rw [if_neg c26] at H
                          have c26b0 : decide (((iT l0_1 x7_1).f0) ≤ ((iT l0_1 (ji23)).f0)) = false := decide_eq_false c26
                          clear c26
                          by_cases c28 : ((iT l0_1 x7_1).f1) = ((iT l0_1 (ji23)).f1)
                          · rw [if_pos c28] at H
                            have c28b0 : (((iT l0_1 x7_1).f1) == ((iT l0_1 (ji23)).f1)) = true := beq_iff_eq.mpr c28
                            have c28b1 : (((iT l0_1 x7_1).f1) != ((iT l0_1 (ji23)).f1)) = false := bne_eq_false_iff_eq.mpr c28
                            clear c28
                            obtain rfl := Option.some.inj H
                            have hcz29_0 : wc.cell? ⟨gb329, 0, none⟩ = some (.int .u32 a0_0) := (iI BK329.out 0).trans rfl
                            have hcz29_1 : wc.cell? ⟨gb329, 1, none⟩ = some (.slice A0_1 l0_1.length c0_1) := (iI BK329.out 1).trans rfl
                            have hfz29_0 := iH BK329.out 0
                            have hfz29_1 := iH BK329.out 1
                            have p334 : 0 ≤ (x7_1 : Int) := of_decide_eq_true asm_
                            have q334 : x7_1 < (l0_1.length : Int) := of_decide_eq_true asm_
                            obtain ⟨ad334, e334, hx334_0, hx334_1⟩ := jK HR0_1.out x7_1 p334 q334
                            cases e334
                            replace hx334_0 := (HB.out.cell (World.block_lt_of_cell? w _ hx334_0)).trans hx334_0
                            replace hx334_1 := (HB.out.cell (World.block_lt_of_cell? w _ hx334_1)).trans hx334_1
                            replace p334 := eq_true p334
                            replace q334 := eq_true q334
                            have p335 : 0 ≤ ((ji23) : Int) := of_decide_eq_true asm_
                            have q335 : (ji23) < (l0_1.length : Int) := of_decide_eq_true asm_
                            obtain ⟨ad335, e335, hx335_0, hx335_1⟩ := jK HR0_1.out (ji23) p335 q335
                            obtain rfl : ad334 = ad335 := (by injection e335)
                            replace hx335_0 := (HB.out.cell (World.block_lt_of_cell? w _ hx335_0)).trans hx335_0
                            replace hx335_1 := (HB.out.cell (World.block_lt_of_cell? w _ hx335_1)).trans hx335_1
                            replace p335 := eq_true p335
                            replace q335 := eq_true q335
                            have p336 : 0 ≤ (x7_1 : Int) := of_decide_eq_true asm_
                            have q336 : x7_1 < (l0_1.length : Int) := of_decide_eq_true asm_
                            obtain ⟨ad336, e336, hx336_0, hx336_1⟩ := jK HR0_1.out x7_1 p336 q336
                            obtain rfl : ad334 = ad336 := (by injection e336)
                            replace hx336_0 := (HB.out.cell (World.block_lt_of_cell? w _ hx336_0)).trans hx336_0
                            replace hx336_1 := (HB.out.cell (World.block_lt_of_cell? w _ hx336_1)).trans hx336_1
                            replace p336 := eq_true p336
                            replace q336 := eq_true q336
                            have p337 : 0 ≤ ((ji23) : Int) := of_decide_eq_true asm_
                            have q337 : (ji23) < (l0_1.length : Int) := of_decide_eq_true asm_
                            obtain ⟨ad337, e337, hx337_0, hx337_1⟩ := jK HR0_1.out (ji23) p337 q337
                            obtain rfl : ad334 = ad337 := (by injection e337)
                            replace hx337_0 := (HB.out.cell (World.block_lt_of_cell? w _ hx337_0)).trans hx337_0
                            replace hx337_1 := (HB.out.cell (World.block_lt_of_cell? w _ hx337_1)).trans hx337_1
                            replace p337 := eq_true p337
                            replace q337 := eq_true q337
                            go_wp2
                            repeat (go_quiet (fail); try go_wp2)
                            go_ret
                            exact ⟨by first | rfl | (simp [iR, iQ] <;> rfl) | (simp only [← hji23]; first | rfl | (simp [iR, iQ] <;> rfl)) | (simp [*, iR, iQ] <;> rfl), by repeat (first | (with_reducible first | exact HB.out | apply iF | apply iD | apply iG | refine iE ?_ GE329.out) | exact HB.out)⟩
                          · rw [if_neg c28] at H
                            have c28b0 : (((iT l0_1 x7_1).f1) == ((iT l0_1 (ji23)).f1)) = false := beq_eq_false_iff_ne.mpr c28
                            have c28b1 : (((iT l0_1 x7_1).f1) != ((iT l0_1 (ji23)).f1)) = true := bne_iff_ne.mpr c28
                            have H' := iC.mk H
                            clear H
                            have hcz30_0 : wc.cell? ⟨gb329, 0, none⟩ = some (.int .u32 a0_0) := (iI BK329.out 0).trans rfl
                            have hcz30_1 : wc.cell? ⟨gb329, 1, none⟩ = some (.slice A0_1 l0_1.length c0_1) := (iI BK329.out 1).trans rfl
                            have hfz30_0 := iH BK329.out 0
                            have hfz30_1 := iH BK329.out 1
                            have p334 : 0 ≤ (x7_1 : Int) := of_decide_eq_true asm_
                            have q334 : x7_1 < (l0_1.length : Int) := of_decide_eq_true asm_
                            obtain ⟨ad334, e334, hx334_0, hx334_1⟩ := jK HR0_1.out x7_1 p334 q334
                            cases e334
                            replace hx334_0 := (HB.out.cell (World.block_lt_of_cell? w _ hx334_0)).trans hx334_0
                            replace hx334_1 := (HB.out.cell (World.block_lt_of_cell? w _ hx334_1)).trans hx334_1
                            replace p334 := eq_true p334
                            replace q334 := eq_true q334
                            have p335 : 0 ≤ ((ji23) : Int) := of_decide_eq_true asm_
                            have q335 : (ji23) < (l0_1.length : Int) := of_decide_eq_true asm_
                            obtain ⟨ad335, e335, hx335_0, hx335_1⟩ := jK HR0_1.out (ji23) p335 q335
                            obtain rfl : ad334 = ad335 := (by injection e335)
                            replace hx335_0 := (HB.out.cell (World.block_lt_of_cell? w _ hx335_0)).trans hx335_0
                            replace hx335_1 := (HB.out.cell (World.block_lt_of_cell? w _ hx335_1)).trans hx335_1
                            replace p335 := eq_true p335
                            replace q335 := eq_true q335
                            have p336 : 0 ≤ (x7_1 : Int) := of_decide_eq_true asm_
                            have q336 : x7_1 < (l0_1.length : Int) := of_decide_eq_true asm_
                            obtain ⟨ad336, e336, hx336_0, hx336_1⟩ := jK HR0_1.out x7_1 p336 q336
                            obtain rfl : ad334 = ad336 := (by injection e336)
                            replace hx336_0 := (HB.out.cell (World.block_lt_of_cell? w _ hx336_0)).trans hx336_0
                            replace hx336_1 := (HB.out.cell (World.block_lt_of_cell? w _ hx336_1)).trans hx336_1
                            replace p336 := eq_true p336
                            replace q336 := eq_true q336
                            have p337 : 0 ≤ ((ji23) : Int) := of_decide_eq_true asm_
                            have q337 : (ji23) < (l0_1.length : Int) := of_decide_eq_true asm_
                            obtain ⟨ad337, e337, hx337_0, hx337_1⟩ := jK HR0_1.out (ji23) p337 q337
                            obtain rfl : ad334 = ad337 := (by injection e337)
                            replace hx337_0 := (HB.out.cell (World.block_lt_of_cell? w _ hx337_0)).trans hx337_0
                            replace hx337_1 := (HB.out.cell (World.block_lt_of_cell? w _ hx337_1)).trans hx337_1
                            replace p337 := eq_true p337
                            replace q337 := eq_true q337
                            go_wp2
                            repeat (go_quiet (fail); try go_wp2)
                            go_roundg kj5
                            case measure => have := HK1.out; have := HJ5.out; omega
                            case rel => exact ⟨(wrap64 (x7_1 + 1)), (by first | rfl | (simp; done) | (simp [*]; done)), H', ⟨by have := HK1.out; have := HJ5.out; omega⟩, ⟨bk_ BK329.out⟩, ⟨by repeat (first | (with_reducible first | exact HB.out | apply iF | apply iD | apply iG | refine iE ?_ GE329.out) | exact HB.out)⟩⟩
                      · rw [if_neg c25] at H
                        exact absurd H (by simp)
                    · rw [if_neg c24] at H
                      exact absurd H (by simp)
                  · rw [if_neg c22] at H
                    exact absurd H (by simp)
                · rw [if_neg c21] at H
                  exact absurd H (by simp)
              · rw [if_neg c20] at H
                have c20b0 : decide (0 < x7_1) = false := decide_eq_false c20
                clear c20
                have H' := iC.mk H
                clear H
                go_wp2
                repeat (go_quiet (fail); try go_wp2)
                go_roundg kj5
                case measure => have := HK1.out; have := HJ5.out; omega
                case rel => exact ⟨(wrap64 (x7_1 + 1)), (by first | rfl | (simp; done) | (simp [*]; done)), H', ⟨by have := HK1.out; have := HJ5.out; omega⟩, ⟨bk_ BK329.out⟩, ⟨by repeat (first | (with_reducible first | exact HB.out | apply iF | apply iD | apply iG | refine iE ?_ GE329.out) | exact HB.out)⟩⟩
      · rw [if_neg c5] at H
        have c5b0 : decide (x7_1 < (l0_1.length : Int)) = false := decide_eq_false c5
        clear c5
        by_cases c31 : (l0_1.length : Int) ≥ 1
        · rw [if_pos c31] at H
          have c31b0 : decide (1 ≤ (l0_1.length : Int)) = true := decide_eq_true c31
          have c31b1 : decide (1 ≤ l0_1.length) = true := decide_eq_true (by omega)
          clear c31
          obtain rfl := Option.some.inj H
          have hcz32_0 : wr.cell? ⟨gb329, 0, none⟩ = some (.int .u32 a0_0) := (iI BK329.out 0).trans rfl
          have hcz32_1 : wr.cell? ⟨gb329, 1, none⟩ = some (.slice A0_1 l0_1.length c0_1) := (iI BK329.out 1).trans rfl
          have hfz32_0 := iH BK329.out 0
          have hfz32_1 := iH BK329.out 1
          go_wp2
          repeat (go_quiet (fail); try go_wp2)
          go_ret
          exact ⟨by first | rfl | (simp [iR, iQ] <;> rfl) | (simp [*, iR, iQ] <;> rfl), by repeat (first | (with_reducible first | exact HB.out | apply iF | apply iD | apply iG | refine iE ?_ GE329.out) | exact HB.out)⟩
        · rw [if_neg c31] at H
          have c31b0 : decide (1 ≤ (l0_1.length : Int)) = false := decide_eq_false c31
          have c31b1 : decide (1 ≤ l0_1.length) = false := decide_eq_false (by omega)
          clear c31
          obtain rfl := Option.some.inj H
          have hcz33_0 : wr.cell? ⟨gb329, 0, none⟩ = some (.int .u32 a0_0) := (iI BK329.out 0).trans rfl
          have hcz33_1 : wr.cell? ⟨gb329, 1, none⟩ = some (.slice A0_1 l0_1.length c0_1) := (iI BK329.out 1).trans rfl
          have hfz33_0 := iH BK329.out 0
          have hfz33_1 := iH BK329.out 1
          go_wp2
          repeat (go_quiet (fail); try go_wp2)
          go_ret
          exact ⟨by first | rfl | (simp [iR, iQ] <;> rfl) | (simp [*, iR, iQ] <;> rfl), by repeat (first | (with_reducible first | exact HB.out | apply iF | apply iD | apply iG | refine iE ?_ GE329.out) | exact HB.out)⟩
end Go.Proofs.Ytbpdejbkfpkphaa.K
end

section
namespace Go.Proofs.Ytbpdejbkfpkphaa.K
open Go.RowKit Go.Proofs.YtbpdejbkfpkphaaW.PrintWords Go.Proofs.YtbpdejbkfpkphaaW.PrintLast Go.Proofs.YtbpdejbkfpkphaaW.PrintMore
attribute [local go_sem] jU jT jZ jY jO jP jW jV
def stratumref12_Find.l0 : Nat → Int → Int → Int → Int → List (S60) → Option (Int)
  | 0, _, _, _, _, _ => none
  | k + 1, x1, x5, x6, x339000, x339001 => if x6 < (x339001.length : Int) then (if 0 ≤ x6 then (if ((iT x339001 x6).f0) ≤ x1 then (stratumref12_Find.l0 k x1 ((iT x339001 x6).f1) (wrap64 (x6 + 1)) x339000 x339001) else (stratumref12_Find.l0 k x1 x5 (wrap64 (x6 + 1)) x339000 x339001)) else (none)) else (some x5)
def stratumref12_Find.f (k : Nat) (a0_0 : Int) (l0_1 : List (S60)) (a1 : Int) : Option (Int) := stratumref12_Find.l0 k a1 (-1) 0 a0_0 l0_1
theorem stratumref12_Find.mono_l : ∀ k, (∀ y0 y1 y2 y3 y4, LeO (stratumref12_Find.l0 k y0 y1 y2 y3 y4) (stratumref12_Find.l0 (k + 1) y0 y1 y2 y3 y4))
  | 0 => fun _ _ _ _ _ r h => by simp [stratumref12_Find.l0] at h
  | k + 1 => by
    have ih0 := stratumref12_Find.mono_l k
    · intro y0 y1 y2 y3 y4
      unfold stratumref12_Find.l0
      repeat' first
      | (with_reducible exact ih0 _ _ _ _ _)
      | (with_reducible exact LeO.refl _)
      | (with_reducible exact LeO.none _)
      | (with_reducible refine LeO.ite ?_ ?_)
      | (with_reducible refine LeO.bind ?_ (fun _ => ?_))
      | exact ih0 _ _ _ _ _
      | exact LeO.none _
      | refine LeO.ite ?_ ?_
      | refine LeO.bind ?_ (fun _ => ?_)
theorem stratumref12_Find.mono : ∀ a0 a1 a2 k, LeO (stratumref12_Find.f k a0 a1 a2) (stratumref12_Find.f (k + 1) a0 a1 a2) := by
  intro a0 a1 a2 k
  have ih0 := stratumref12_Find.mono_l k
  unfold stratumref12_Find.f
  repeat' first
      | (with_reducible exact ih0 _ _ _ _ _)
      | (with_reducible exact LeO.refl _)
      | (with_reducible exact LeO.none _)
      | (with_reducible refine LeO.ite ?_ ?_)
      | (with_reducible refine LeO.bind ?_ (fun _ => ?_))
      | exact ih0 _ _ _ _ _
      | exact LeO.none _
      | refine LeO.ite ?_ ?_
      | refine LeO.bind ?_ (fun _ => ?_)
set_option maxHeartbeats 8000000 in
set_option maxRecDepth 100000 in
theorem stratumref12_Find.calls (k : Nat) (a0_0 : Int) (A0_1 : Option Addr) (c0_1 : Nat) (l0_1 : List (S60)) (a1 : Int) (r : Int) (w : World) (hr0_1 : Kd.C k60 w A0_1 l0_1.length l0_1) (hc0_1 : l0_1.length ≤ c0_1) (h : stratumref12_Find.f k a0_0 l0_1 a1 = some r) :
    Calls Try.prog 36 #[.agg #[.int .u32 a0_0, .slice A0_1 l0_1.length c0_1], .int .i64 a1] w fun e w' => e = .returned (.int .i64 r) ∧ Below w.heap.size w w' := by
  have hu42 := Try.underlying42
  have HR0_1 := iC.mk hr0_1
  have HC0_1 := iC.mk hc0_1
  clear hr0_1 hc0_1
  have HB := iC.mk (Below.refl w.heap.size w)
  have H : (stratumref12_Find.l0 k a1 (-1) 0 a0_0 l0_1) = some r := h
  clear h
  have H' := iC.mk H
  clear H
  go_enter Try.func36, Try.ntmps36
  go_wp2_with (first | ((with_reducible refine jC (N := 2) rfl ?_); refine jA ?hg (N := 2) ?hd (cs := #[.int .u32 a0_0, .slice A0_1 l0_1.length c0_1]) (t := 42) ?hr ?_; (case hd => rfl); (case hg => rfl); (case hr => first | (go_simp; done) | (go_simp; rfl)); intro gb338 hg w3 hbox hb; have n0_ := iC.mk (iK hb_ hb); have n1_ := iC.mk (hbox); have n2_ := iC.mk ((by rw [hg]; exact (iJ hb_) : w.heap.size ≤ gb338)); have n3_ := iC.mk ((by rw [hg]; exact (iJ hb_) : w.heap.size ≤ gb338)); clear HB; have HB := n0_; have BK338 := n1_; have GW338 := n2_; have GE338 := n3_; clear n0_ n1_ n2_ n3_; clear hb hbox hg))
  go_loopg [5, 6] k (fun kq v5 v6 w' => ∃ (x5_1 : Int) (x6_1 : Int), v5 = .int .i64 x5_1 ∧ v6 = .int .i64 x6_1 ∧ iC (stratumref12_Find.l0 kq a1 x5_1 x6_1 a0_0 l0_1 = some r) ∧ iC (kq ≤ k) ∧ iC (w'.heap[gb338]? = some (.cells #[.int .u32 a0_0, (.slice A0_1 l0_1.length c0_1)] 42 (0, 0))) ∧ iC (Below w.heap.size w w'))
  case atStart => exact ⟨((-1)), (0), (by first | rfl | (simp; done) | (simp [*]; done)), (by first | rfl | (simp; done) | (simp [*]; done)), H', ⟨Nat.le_refl _⟩, ⟨bk_ BK338.out⟩, ⟨by repeat (first | (with_reducible first | exact HB.out | apply iF | apply iD | apply iG | refine iE ?_ GE338.out) | exact HB.out)⟩⟩
  case round =>
    clear H'
    try clear p2
    try clear c3
    obtain ⟨x5_1, x6_1, rfl, rfl, HA, HK1, BK338, HB⟩ := hrel
    cases gk with
    | zero => exact absurd HA.out (by simp [stratumref12_Find.l0])
    | succ k1 =>
      have H := HA.out
      clear HA
      simp only [stratumref12_Find.l0] at H
      by_cases c4 : x6_1 < (l0_1.length : Int)
      · rw [if_pos c4] at H
        have c4b0 : decide (x6_1 < (l0_1.length : Int)) = true := decide_eq_true c4
        clear c4
        by_cases c5 : 0 ≤ x6_1
        · rw [if_pos c5] at H
          have c5b0 : decide (0 ≤ x6_1) = true := decide_eq_true c5
          clear c5
          by_cases c6 : ((iT l0_1 x6_1).f0) ≤ a1
          · rw [if_pos c6] at H
            have c6b0 : decide (((iT l0_1 x6_1).f0) ≤ a1) = true := decide_eq_true c6
            clear c6
            have H' := iC.mk H
            clear H
            have hcz7_0 : wr.cell? ⟨gb338, 0, none⟩ = some (.int .u32 a0_0) := (iI BK338.out 0).trans rfl
            have hcz7_1 : wr.cell? ⟨gb338, 1, none⟩ = some (.slice A0_1 l0_1.length c0_1) := (iI BK338.out 1).trans rfl
            have hfz7_0 := iH BK338.out 0
            have hfz7_1 := iH BK338.out 1
            have p339 : 0 ≤ (x6_1 : Int) := of_decide_eq_true asm_
            have q339 : x6_1 < (l0_1.length : Int) := of_decide_eq_true asm_
            obtain ⟨ad339, e339, hx339_0, hx339_1⟩ := jK HR0_1.out x6_1 p339 q339
            cases e339
            replace hx339_0 := (HB.out.cell (World.block_lt_of_cell? w _ hx339_0)).trans hx339_0
            replace hx339_1 := (HB.out.cell (World.block_lt_of_cell? w _ hx339_1)).trans hx339_1
            replace p339 := eq_true p339
            replace q339 := eq_true q339
            have p340 : 0 ≤ (x6_1 : Int) := of_decide_eq_true asm_
            have q340 : x6_1 < (l0_1.length : Int) := of_decide_eq_true asm_
            obtain ⟨ad340, e340, hx340_0, hx340_1⟩ := jK HR0_1.out x6_1 p340 q340
            obtain rfl : ad339 = ad340 := (by injection e340)
            replace hx340_0 := (HB.out.cell (World.block_lt_of_cell? w _ hx340_0)).trans hx340_0
            replace hx340_1 := (HB.out.cell (World.block_lt_of_cell? w _ hx340_1)).trans hx340_1
            replace p340 := eq_true p340
            replace q340 := eq_true q340
            go_wp2
            go_roundg k1
            case measure => have := HK1.out; omega
            case rel => exact ⟨((iT l0_1 x6_1).f1), (wrap64 (x6_1 + 1)), (by first | rfl | (simp; done) | (simp [*]; done)), (by first | rfl | (simp; done) | (simp [*]; done)), H', ⟨by have := HK1.out; omega⟩, ⟨bk_ BK338.out⟩, ⟨by repeat (first | (with_reducible first | exact HB.out | apply iF | apply iD | apply iG | refine iE ?_ GE338.out) | exact HB.out)⟩⟩
          · rw [if_neg c6] at H
            have c6b0 : decide (((iT l0_1 x6_1).f0) ≤ a1) = false := decide_eq_false c6
            clear c6
            have H' := iC.mk H
            clear H
            have hcz8_0 : wr.cell? ⟨gb338, 0, none⟩ = some (.int .u32 a0_0) := (iI BK338.out 0).trans rfl
            have hcz8_1 : wr.cell? ⟨gb338, 1, none⟩ = some (.slice A0_1 l0_1.length c0_1) := (iI BK338.out 1).trans rfl
            have hfz8_0 := iH BK338.out 0
            have hfz8_1 := iH BK338.out 1
            have p339 : 0 ≤ (x6_1 : Int) := of_decide_eq_true asm_
            have q339 : x6_1 < (l0_1.length : Int) := of_decide_eq_true asm_
            obtain ⟨ad339, e339, hx339_0, hx339_1⟩ := jK HR0_1.out x6_1 p339 q339
            cases e339
            replace hx339_0 := (HB.out.cell (World.block_lt_of_cell? w _ hx339_0)).trans hx339_0
            replace hx339_1 := (HB.out.cell (World.block_lt_of_cell? w _ hx339_1)).trans hx339_1
            replace p339 := eq_true p339
            replace q339 := eq_true q339
            go_wp2
            go_roundg k1
            case measure => have := HK1.out; omega
            case rel => exact ⟨(x5_1), (wrap64 (x6_1 + 1)), (by first | rfl | (simp; done) | (simp [*]; done)), (by first | rfl | (simp; done) | (simp [*]; done)), H', ⟨by have := HK1.out; omega⟩, ⟨bk_ BK338.out⟩, ⟨by repeat (first | (with_reducible first | exact HB.out | apply iF | apply iD | apply iG | refine iE ?_ GE338.out) | exact HB.out)⟩⟩
        · rw [if_neg c5] at H
          exact absurd H (by simp)
      · rw [if_neg c4] at H
        have c4b0 : decide (x6_1 < (l0_1.length : Int)) = false := decide_eq_false c4
        clear c4
        obtain rfl := Option.some.inj H
        have hcz9_0 : wr.cell? ⟨gb338, 0, none⟩ = some (.int .u32 a0_0) := (iI BK338.out 0).trans rfl
        have hcz9_1 : wr.cell? ⟨gb338, 1, none⟩ = some (.slice A0_1 l0_1.length c0_1) := (iI BK338.out 1).trans rfl
        have hfz9_0 := iH BK338.out 0
        have hfz9_1 := iH BK338.out 1
        go_wp2
        go_ret
        exact ⟨by first | rfl | (simp [iR, iQ] <;> rfl) | (simp [*, iR, iQ] <;> rfl), by repeat (first | (with_reducible first | exact HB.out | apply iF | apply iD | apply iG | refine iE ?_ GE338.out) | exact HB.out)⟩
end Go.Proofs.Ytbpdejbkfpkphaa.K
end
