/- Parts of the proof, one behind the other: K4, K9, K10, CodeR, CodeS, ReadR. -/
import Derived.Test.YtgfkgppomaapiaaDoorQCodeDecodes2
import Derived.Deep.WholeRow
import Derived.Laws.Tables
set_option linter.unusedVariables false
set_option linter.unusedSimpArgs false
section
namespace Go.Proofs.YtgfkgppomaapiaaDoor.K
open Go.RowKit Go.Proofs.YtgfkgppomaapiaaDoorW.PrintWords Go.Proofs.YtgfkgppomaapiaaDoorW.PrintLast Go.Proofs.YtgfkgppomaapiaaDoorW.PrintMore
def code_rises.l0 : Nat → Int → List Int → Int → Int → Option (Bool)
  | 0, _, _, _, _ => none
  | k + 1, x3, x6, x7, x8 => if x8 < x7 then (if 0 ≤ x8 then (if x8 < (x6.length : Int) then (if (rd x6 x8) ≤ x3 then (some false) else (if (rd x6 x8) ≥ 6 then (some false) else (code_rises.l0 k (rd x6 x8) x6 x7 (wrap64 (x8 + 1))))) else (none)) else (none)) else (some true)
def code_rises.f (k : Nat) (l0 : List Int) : Option (Bool) := code_rises.l0 k (-1) l0 (l0.length : Int) 0
set_option maxHeartbeats 8000000 in
set_option maxRecDepth 100000 in
theorem code_rises.calls (k : Nat) (A0 : Option Addr) (c0 : Nat) (l0 : List Int) (r : Bool) (w : World) (hr0 : Kd.C (Kd.int .i64) w A0 l0.length l0) (hc0 : l0.length ≤ c0) (h : code_rises.f k l0 = some r) :
    Calls Tryd.prog 61 #[.slice A0 l0.length c0] w fun e w' => e = .returned (.bool r) ∧ iW w w' := by
  have HR0 := iC.mk hr0
  have HC0 := iC.mk hc0
  clear hr0 hc0
  have H : (code_rises.l0 k (-1) l0 (l0.length : Int) 0) = some r := h
  clear h
  have H' := iC.mk H
  clear H
  go_enter Tryd.func61, Tryd.ntmps61
  go_wp2
  go_loopg [3, 8] k (fun kq v3 v8 w' => ∃ (x3_1 : Int) (x8_1 : Int), v3 = .int .i64 x3_1 ∧ v8 = .int .i64 x8_1 ∧ iC (code_rises.l0 kq x3_1 l0 (l0.length : Int) x8_1 = some r) ∧ iC (kq ≤ k) ∧ iW w w')
  case atStart => exact ⟨((-1)), (0), (by first | rfl | (simp; done) | (simp [*]; done)), (by first | rfl | (simp; done) | (simp [*]; done)), H', ⟨Nat.le_refl _⟩, by repeat (first | exact iW.refl _ | apply iW.step)⟩
  case round =>
    clear H'
    obtain ⟨x3_1, x8_1, rfl, rfl, HA, HK1, ⟨m1, rfl⟩⟩ := hrel
    cases gk with
    | zero => exact absurd HA.out (by simp [code_rises.l0])
    | succ k1 =>
      have H := HA.out
      clear HA
      simp only [code_rises.l0] at H
      by_cases c2 : x8_1 < (l0.length : Int)
      · rw [if_pos c2] at H
        have c2b0 : decide (x8_1 < (l0.length : Int)) = true := decide_eq_true c2
        clear c2
        by_cases c3 : 0 ≤ x8_1
        · rw [if_pos c3] at H
          have c3b0 : decide (0 ≤ x8_1) = true := decide_eq_true c3
          clear c3
          by_cases c4 : x8_1 < (l0.length : Int)
          · rw [if_pos c4] at H
            have c4b0 : decide (x8_1 < (l0.length : Int)) = true := decide_eq_true c4
            clear c4
            by_cases c5 : (rd l0 x8_1) ≤ x3_1
            · rw [if_pos c5] at H
              have c5b0 : decide ((rd l0 x8_1) ≤ x3_1) = true := decide_eq_true c5
              clear c5
              obtain rfl := Option.some.inj H
              have p106 : 0 ≤ (x8_1 : Int) := of_decide_eq_true asm_
              have q106 : x8_1 < (l0.length : Int) := of_decide_eq_true asm_
              obtain ⟨ad106, e106, hx106_0⟩ := Kd.at_int HR0.out x8_1 p106 q106
              cases e106
              replace p106 := eq_true p106
              replace q106 := eq_true q106
              go_wp2
              go_ret
              exact ⟨by first | rfl | (simp; done) | (simp [*]; done), by repeat (first | exact iW.refl _ | apply iW.step)⟩
            · rw [if_neg c5] at H
              have c5b0 : decide ((rd l0 x8_1) ≤ x3_1) = false := decide_eq_false c5
              clear c5
              by_cases c6 : (rd l0 x8_1) ≥ 6
              · rw [if_pos c6] at H
                have c6b0 : decide (6 ≤ (rd l0 x8_1)) = true := decide_eq_true c6
                clear c6
                obtain rfl := Option.some.inj H
                have p106 : 0 ≤ (x8_1 : Int) := of_decide_eq_true asm_
                have q106 : x8_1 < (l0.length : Int) := of_decide_eq_true asm_
                obtain ⟨ad106, e106, hx106_0⟩ := Kd.at_int HR0.out x8_1 p106 q106
                cases e106
                replace p106 := eq_true p106
                replace q106 := eq_true q106
                go_wp2
                go_ret
                exact ⟨by first | rfl | (simp; done) | (simp [*]; done), by repeat (first | exact iW.refl _ | apply iW.step)⟩
              · rw [if_neg c6] at H
                have c6b0 : decide (6 ≤ (rd l0 x8_1)) = false := decide_eq_false c6
                clear c6
                have H' := iC.mk H
                clear H
                have p106 : 0 ≤ (x8_1 : Int) := of_decide_eq_true asm_
                have q106 : x8_1 < (l0.length : Int) := of_decide_eq_true asm_
                obtain ⟨ad106, e106, hx106_0⟩ := Kd.at_int HR0.out x8_1 p106 q106
                cases e106
                replace p106 := eq_true p106
                replace q106 := eq_true q106
                go_wp2
                go_roundg k1
                case measure => have := HK1.out; omega
                case rel => exact ⟨(rd l0 x8_1), (wrap64 (x8_1 + 1)), (by first | rfl | (simp; done) | (simp [*]; done)), (by first | rfl | (simp; done) | (simp [*]; done)), H', ⟨by have := HK1.out; omega⟩, by repeat (first | exact iW.refl _ | apply iW.step)⟩
          · rw [if_neg c4] at H
            exact absurd H (by simp)
        · rw [if_neg c3] at H
          exact absurd H (by simp)
      · rw [if_neg c2] at H
        have c2b0 : decide (x8_1 < (l0.length : Int)) = false := decide_eq_false c2
        clear c2
        obtain rfl := Option.some.inj H
        go_wp2
        go_ret
        exact ⟨by first | rfl | (simp; done) | (simp [*]; done), by repeat (first | exact iW.refl _ | apply iW.step)⟩
end Go.Proofs.YtgfkgppomaapiaaDoor.K
end

section
namespace Go.Proofs.YtgfkgppomaapiaaDoor.K
open Go.RowKit Go.Proofs.YtgfkgppomaapiaaDoorW.PrintWords Go.Proofs.YtgfkgppomaapiaaDoorW.PrintLast Go.Proofs.YtgfkgppomaapiaaDoorW.PrintMore
def code_history.l0 : Nat → List (S86) → List (S86) → Int → Int → Option (Bool)
  | 0, _, _, _, _ => none
  | k + 1, x0, x5, x6, x7 => if x7 < x6 then (if 0 ≤ x7 then (if x7 < (x5.length : Int) then ((code_batch.f ((iP x5 x7).f1)).bind fun t109 => (if t109 = true then (if x7 > 0 then (if 0 ≤ (wrap64 (x7 - 1)) then (if (wrap64 (x7 - 1)) < (x0.length : Int) then (if ((iP x5 x7).f0) ≤ ((iP x0 (wrap64 (x7 - 1))).f0) then (some false) else (code_history.l0 k x0 x5 x6 (wrap64 (x7 + 1)))) else (none)) else (none)) else (code_history.l0 k x0 x5 x6 (wrap64 (x7 + 1)))) else (some false))) else (none)) else (none)) else (some (decide ((x0.length : Int) ≤ 5000)))
def code_history.f (k : Nat) (l0 : List (S86)) : Option (Bool) := code_history.l0 k l0 l0 (l0.length : Int) 0
def code_history.T4 : Bool × List (List Nat × List Nat) := (true, [([], []), ([0], [0]), ([1], [1]), ([2], [2]), ([3, 2], [3]), ([4], [4]), ([5, 4], [4, 5]), ([6, 4, 4], [4, 6]), ([7], [7]), ([8, 7], [7, 8]), ([7], [7]), ([7], [7]), ([11, 7], [7, 11]), ([10, 12, 7], [7, 10, 12]), ([13, 7], [7, 13]), ([14, 7], [7, 14]), ([9, 15, 7], [7, 9, 15]), ([7, 16, 4], [4, 7, 16]), ([4, 17], [4, 17])])
def code_history.B4 : List Nat := [0, 1, 3, 7, 15, 31, 63, 127, 255, 511, 255, 255, 2303, 7423, 15615, 31999, 65535, 131071, 262143]
theorem code_history.tab4 : rtab .any (opsOf Tryd.f66 4) = code_history.T4 := by kernel_rfl
theorem code_history.bits4 : mW code_history.T4.2 code_history.B4 = true := by kernel_rfl
set_option maxHeartbeats 8000000 in
set_option maxRecDepth 100000 in
theorem code_history.calls (k : Nat) (A0 : Option Addr) (c0 : Nat) (l0 : List (S86)) (r : Bool) (w : World) (hr0 : Kd.C k86 w A0 l0.length l0) (hc0 : l0.length ≤ c0) (h : code_history.f k l0 = some r) :
    Calls Tryd.prog 66 #[.slice A0 l0.length c0] w fun e w' => e = .returned (.bool r) ∧ Below w.heap.size w w' := by
  have hu86 := Tryd.underlying86
  have HR0 := iC.mk hr0
  have HC0 := iC.mk hc0
  clear hr0 hc0
  have HB := iC.mk (Below.refl w.heap.size w)
  have H : (code_history.l0 k l0 l0 (l0.length : Int) 0) = some r := h
  clear h
  have H' := iC.mk H
  clear H
  go_enter Tryd.func66, Tryd.ntmps66
  go_wp2
  go_loopg [7] k (fun kq v7 w' => ∃ (x7_1 : Int), v7 = .int .i64 x7_1 ∧ iC (code_history.l0 kq l0 l0 (l0.length : Int) x7_1 = some r) ∧ iC (kq ≤ k) ∧ iC (Below w.heap.size w w'))
  case atStart => exact ⟨(0), (by first | rfl | (simp; done) | (simp [*]; done)), H', ⟨Nat.le_refl _⟩, ⟨hb_⟩⟩
  case round =>
    clear H'
    obtain ⟨x7_1, rfl, HA, HK1, HB⟩ := hrel
    cases gk with
    | zero => exact absurd HA.out (by simp [code_history.l0])
    | succ k1 =>
      have H := HA.out
      clear HA
      simp only [code_history.l0] at H
      by_cases c2 : x7_1 < (l0.length : Int)
      · rw [if_pos c2] at H
        have c2b0 : decide (x7_1 < (l0.length : Int)) = true := decide_eq_true c2
        clear c2
        by_cases c3 : 0 ≤ x7_1
        · rw [if_pos c3] at H
          have c3b0 : decide (0 ≤ x7_1) = true := decide_eq_true c3
          clear c3
          by_cases c4 : x7_1 < (l0.length : Int)
          · rw [if_pos c4] at H
            have c4b0 : decide (x7_1 < (l0.length : Int)) = true := decide_eq_true c4
            clear c4
            replace H := Option.bind_eq_some_iff.mp H
            obtain ⟨t109, A50, H⟩ := H
            replace H : (if t109 = true then (if x7_1 > 0 then (if 0 ≤ (wrap64 (x7_1 - 1)) then (if (wrap64 (x7_1 - 1)) < (l0.length : Int) then (if ((iP l0 x7_1).f0) ≤ ((iP l0 (wrap64 (x7_1 - 1))).f0) then (some false) else (code_history.l0 k1 l0 l0 (l0.length : Int) (wrap64 (x7_1 + 1)))) else (none)) else (none)) else (code_history.l0 k1 l0 l0 (l0.length : Int) (wrap64 (x7_1 + 1)))) else (some false)) = some r := H
            have A5 := iC.mk A50
            clear A50
            by_cases c6 : t109 = true
            · subst c6
              have H1 : (if x7_1 > 0 then (if 0 ≤ (wrap64 (x7_1 - 1)) then (if (wrap64 (x7_1 - 1)) < (l0.length : Int) then (if ((iP l0 x7_1).f0) ≤ ((iP l0 (wrap64 (x7_1 - 1))).f0) then (some false) else (code_history.l0 k1 l0 l0 (l0.length : Int) (wrap64 (x7_1 + 1)))) else (none)) else (none)) else (code_history.l0 k1 l0 l0 (l0.length : Int) (wrap64 (x7_1 + 1)))) = some r := by rw [if_pos rfl] at H; exact H
              clear H
              have H := H1
              clear H1
              by_cases c7 : x7_1 > 0
              · rw [if_pos c7] at H
                have c7b0 : decide (0 < x7_1) = true := decide_eq_true c7
                clear c7
                obtain ⟨ji8, hji8⟩ : ∃ j_ : Int, (wrap64 (x7_1 - 1)) = j_ := ⟨_, rfl⟩
                replace H : (if 0 ≤ (ji8) then (if (ji8) < (l0.length : Int) then (if ((iP l0 x7_1).f0) ≤ ((iP l0 (ji8)).f0) then (some false) else (code_history.l0 k1 l0 l0 (l0.length : Int) (wrap64 (x7_1 + 1)))) else (none)) else (none)) = some r := by first | (rw [hji8] at H; exact H) | (simp only [hji8] at H ⊢; exact H)
                (try rw [hji8] at A5)
                have hji8w : (IntKind.i64.wrap (x7_1 - 1)) = ji8 := (iY _).trans hji8
                by_cases c9 : 0 ≤ (ji8)
                · rw [if_pos c9] at H
                  have c9b0 : decide (0 ≤ (ji8)) = true := decide_eq_true c9
                  clear c9
                  by_cases c10 : (ji8) < (l0.length : Int)
                  · rw [if_pos c10] at H
                    have c10b0 : decide ((ji8) < (l0.length : Int)) = true := decide_eq_true c10
                    clear c10
                    by_cases c11 : ((iP l0 x7_1).f0) ≤ ((iP l0 (ji8)).f0)
                    · rw [if_pos c11] at H
                      have c11b0 : decide (((iP l0 x7_1).f0) ≤ ((iP l0 (ji8)).f0)) = true := decide_eq_true c11
                      clear c11
                      obtain rfl := Option.some.inj H
                      have p107 : 0 ≤ (x7_1 : Int) := of_decide_eq_true asm_
                      have q107 : x7_1 < (l0.length : Int) := of_decide_eq_true asm_
                      obtain ⟨ad107, A107_1, c107_1, e107, hx107_0, hx107_1, hl107_1, hi107_1⟩ := kV HR0.out x7_1 p107 q107
                      cases e107
                      replace hx107_0 := (HB.out.cell (World.block_lt_of_cell? w _ hx107_0)).trans hx107_0
                      replace hx107_1 := (HB.out.cell (World.block_lt_of_cell? w _ hx107_1)).trans hx107_1
                      have HR107_1 := iC.mk hi107_1
                      have HC107_1 := iC.mk hl107_1
                      clear hi107_1 hl107_1
                      replace p107 := eq_true p107
                      replace q107 := eq_true q107
                      try go_wp2_with (first | ((with_reducible refine jS (N := 4) rfl ?_); refine jI ?hg (N := 4) ?hd (cs := #[.int .u32 0, .slice none 0 0]) (t := 86) ?hr ?_; (case hd => rfl); (case hg => rfl); (case hr => first | (go_simp; done) | (go_simp; rfl)); intro gb108 hg w12 hbox hb; have n0_ := iC.mk (iI hb_ hb); have n1_ := iC.mk (hbox); have n2_ := iC.mk ((by rw [hg]; exact (iQ hb_) : w.heap.size ≤ gb108)); have n3_ := iC.mk ((by rw [hg]; exact (iQ hb_) : w.heap.size ≤ gb108)); clear HB; have HB := n0_; have BK108 := n1_; have GW108 := n2_; have GE108 := n3_; clear n0_ n1_ n2_ n3_; clear hb hbox hg; have hcz13_0 : w12.cell? ⟨gb108, 0, none⟩ = some (.int .u32 0) := (iE BK108.out 0).trans rfl; have hcz13_1 : w12.cell? ⟨gb108, 1, none⟩ = some (.slice none 0 0) := (iE BK108.out 1).trans rfl; have hfz13_0 := iD BK108.out 0; have hfz13_1 := iD BK108.out 1))
                      have n0_ : iC (((w12.setCell ⟨gb108, 0, none⟩ (.int .u32 ((iP l0 x7_1).f0))).setCell ⟨gb108, 1, none⟩ (.slice A107_1 ((iP l0 x7_1).f1).length c107_1)).heap[gb108]? = some (.cells #[.int .u32 ((iP l0 x7_1).f0), .slice A107_1 ((iP l0 x7_1).f1).length c107_1] 86 (0, 0))) := ⟨by (with_reducible repeat (first | refine kS ?_ _ | refine kJ ?_ | refine kM ?_ _)); refine lZ (cs := #[.int .u32 ((iP l0 x7_1).f0), .slice none 0 0]) ?_ 1 _ rfl; (with_reducible repeat (first | refine kS ?_ _ | refine kJ ?_ | refine kM ?_ _)); refine lZ (cs := #[.int .u32 0, .slice none 0 0]) ?_ 0 _ rfl; (with_reducible repeat (first | refine kS ?_ _ | refine kJ ?_ | refine kM ?_ _)); exact BK108.out⟩
                      have n1_ : iC (Below w.heap.size w ((w12.setCell ⟨gb108, 0, none⟩ (.int .u32 ((iP l0 x7_1).f0))).setCell ⟨gb108, 1, none⟩ (.slice A107_1 ((iP l0 x7_1).f1).length c107_1))) := ⟨by repeat (first | (with_reducible first | exact HB.out | apply iF | apply iG | apply iH | refine iJ ?_ GE108.out) | exact HB.out)⟩
                      (try clear BK108)
                      (try clear HB)
                      generalize ((w12.setCell ⟨gb108, 0, none⟩ (.int .u32 ((iP l0 x7_1).f0))).setCell ⟨gb108, 1, none⟩ (.slice A107_1 ((iP l0 x7_1).f1).length c107_1)) = w14 at n0_ n1_ ⊢
                      have BK108 := n0_
                      have HB := n1_
                      clear n0_ n1_
                      have n0_ := iC.mk (kJ BK108.out)
                      have n1_ := iC.mk (iH HB.out)
                      clear BK108
                      clear HB
                      have BK108 := n0_
                      have HB := n1_
                      clear n0_ n1_
                      have p110 : 0 ≤ ((ji8) : Int) := of_decide_eq_true asm_
                      have q110 : (ji8) < (l0.length : Int) := of_decide_eq_true asm_
                      obtain ⟨ad110, A110_1, c110_1, e110, hx110_0, hx110_1, hl110_1, hi110_1⟩ := kV HR0.out (ji8) p110 q110
                      have hw110_1 := hx110_1
                      have hw110_0 := hx110_0
                      obtain rfl : ad107 = ad110 := (by injection e110)
                      replace hx110_0 := (HB.out.cell (World.block_lt_of_cell? w _ hx110_0)).trans hx110_0
                      replace hx110_1 := (HB.out.cell (World.block_lt_of_cell? w _ hx110_1)).trans hx110_1
                      have HR110_1 := iC.mk hi110_1
                      have HC110_1 := iC.mk hl110_1
                      clear hi110_1 hl110_1
                      replace p110 := eq_true p110
                      replace q110 := eq_true q110
                      refine uM (n := 19) (S := fun w' => w'.cell? ⟨gb108, 0, none⟩ = some (.int .u32 ((iP l0 x7_1).f0)) ∧ w'.cell? ⟨gb108, 1, none⟩ = some (.slice A107_1 ((iP l0 x7_1).f1).length c107_1) ∧ w'.cell? (ad107.add (((ji8)).toNat * 2)) = some (.int .u32 ((iP l0 (ji8)).f0)) ∧ w'.cell? ⟨(ad107.add (((ji8)).toNat * 2)).block, (ad107.add (((ji8)).toNat * 2)).off + 1, none⟩ = some (.slice A110_1 ((iP l0 (ji8)).f1).length c110_1)) (ds := []) #[false, false, false, false, false, false, false, false, false, false, false, false, false, false, false, false, false, false, false] (by kernel_rfl) rfl rfl ⟨(iE BK108.out 0).trans rfl, (iE BK108.out 1).trans rfl, ((HB.out.cell (World.block_lt_of_cell? w _ hw110_0)).trans hw110_0), ((HB.out.cell (World.block_lt_of_cell? w _ hw110_1)).trans hw110_1)⟩ (fun hHeld => ?_); refine nJ code_history.tab4 code_history.bits4 (fun HT_ HW_ => ?_)
                      generalize w14.drew = w15 at BK108 HB HR110_1 hx110_0 hx110_1 hHeld ⊢
                      refine jP (i := 0) (N := some 12) (v := ?_) (a' := ?_) #[true, false, false, false, false, false, false, false, false, false, false, false, false, false, false, false, false, false, false] rfl rfl (jC HT_.out (by kernel_rfl)) (fun _ _ _ h => h) (Or.inl ⟨by rfl, ?_⟩) ?_ ?_
                      rotate_left
                      · intro w'
                        go_simp
                        with_reducible rfl
                      rotate_left
                      · simp only [Act.put, List.setIfInBounds_toArray, List.set_cons_zero, List.set_cons_succ, iY, jB]
                        rfl
                      refine yI (i := 1) (N := some 13) (v := ?_) (a' := ?_) #[true, true, false, false, false, false, false, false, false, false, false, false, false, false, false, false, false, false, false] rfl rfl (mY HT_.out HW_.out (by kernel_rfl)) (fun _ _ _ h => h) (Or.inl ⟨by rfl, ?_⟩) hHeld ?_ ?_
                      rotate_left
                      · rintro w' ⟨s0, s1, s2, s3⟩
                        go_simp
                        with_reducible rfl
                      rotate_left
                      · simp only [Act.put, List.setIfInBounds_toArray, List.set_cons_zero, List.set_cons_succ, iY, jB]
                        rfl
                      refine one_ (i := 2) (N := some 14) #[true, true, true, false, false, false, false, false, false, false, false, false, false, false, false, false, false, false, false] rfl rfl (mJ HT_.out (by kernel_rfl)) (by decide) (fun K hK => ?_)
                      refine rE Tryd.func62 (by kernel_rfl) rfl #[.slice A107_1 ((iP l0 x7_1).f1).length c107_1] (by rfl) rfl rfl (by (try simp only [List.map_toArray, List.map_cons, List.map_nil]); first | done | rfl | (simp only [List.length_drop, List.length_take]; rfl)) ?_
                      with_reducible refine (code_batch.calls _ _ ((iP l0 x7_1).f1) true _ ?side1 ?side2 A5.out).mono ?_
                      (case side1 => repeat (first | exact (Kd.C_below HR107_1.out HB.out) | (with_reducible refine Kd.C_alloc ?_ _) | (with_reducible refine Kd.C_drewN ?_ _) | (with_reducible refine Kd.C_drew ?_)))
                      (case side2 => exact HC107_1.out)
                      rintro e w16 ⟨rfl, hb⟩
                      refine ⟨_, rfl, ?_⟩
                      have n0_ := iC.mk (jF (g := gb108) (o := .cells #[.int .u32 ((iP l0 x7_1).f0), .slice A107_1 ((iP l0 x7_1).f1).length c107_1] 86 (0, 0)) (bk_ BK108.out) hb)
                      have n1_ := iC.mk (iI (by repeat (first | (with_reducible first | exact HB.out | apply iF | apply iG | apply iH | refine iJ ?_ GE108.out) | exact HB.out)) hb)
                      clear BK108
                      clear HB
                      have BK108 := n0_
                      have HB := n1_
                      clear n0_ n1_
                      (try clear hb)
                      (try clear hb2)
                      (try clear hk)
                      (try clear hi)
                      refine hK.out _ _ ⟨(iE BK108.out 0).trans rfl, (iE BK108.out 1).trans rfl, ((HB.out.cell (World.block_lt_of_cell? w _ hw110_0)).trans hw110_0), ((HB.out.cell (World.block_lt_of_cell? w _ hw110_1)).trans hw110_1)⟩ (fun hHeld => ?_)
                      clear hK K
                      refine lK (a' := ?_) ?_ ?_
                      rotate_left
                      · show Act.put _ (some 14) _ = _
                        simp only [Act.put, List.setIfInBounds_toArray, List.set_cons_zero, List.set_cons_succ, iY, jB]
                        rfl
                      refine jP (i := 3) (N := some 15) (v := ?_) (a' := ?_) #[true, true, true, true, false, false, false, false, false, false, false, false, false, false, false, false, false, false, false] rfl rfl (jC HT_.out (by kernel_rfl)) (fun _ _ _ h => h) (Or.inl ⟨by rfl, ?_⟩) ?_ ?_
                      rotate_left
                      · intro w'
                        go_simp
                        with_reducible rfl
                      rotate_left
                      · simp only [Act.put, List.setIfInBounds_toArray, List.set_cons_zero, List.set_cons_succ, iY, jB]
                        rfl
                      refine jP (i := 4) (N := some 16) (v := ?_) (a' := ?_) #[true, true, true, true, true, false, false, false, false, false, false, false, false, false, false, false, false, false, false] rfl rfl (jC HT_.out (by kernel_rfl)) (fun _ _ _ h => h) (Or.inl ⟨by rfl, ?_⟩) ?_ ?_
                      rotate_left
                      · intro w'
                        go_simp
                        with_reducible rfl
                      rotate_left
                      · simp only [Act.put, List.setIfInBounds_toArray, List.set_cons_zero, List.set_cons_succ, iY, jB]
                        rfl
                      refine jP (i := 5) (N := some 17) (v := ?_) (a' := ?_) #[true, true, true, true, true, true, false, false, false, false, false, false, false, false, false, false, false, false, false] rfl rfl (jC HT_.out (by kernel_rfl)) (fun _ _ _ h => h) (Or.inl ⟨by rfl, ?_⟩) ?_ ?_
                      rotate_left
                      · intro w'
                        go_simp
                        with_reducible rfl
                      rotate_left
                      · simp only [Act.put, List.setIfInBounds_toArray, List.set_cons_zero, List.set_cons_succ, iY, jB]
                        rfl
                      refine jP (i := 6) (N := some 18) (v := ?_) (a' := ?_) #[true, true, true, true, true, true, true, false, false, false, false, false, false, false, false, false, false, false, false] rfl rfl (jC HT_.out (by kernel_rfl)) (fun _ _ _ h => h) (Or.inl ⟨by rfl, ?_⟩) ?_ ?_
                      rotate_left
                      · intro w'
                        go_simp
                        with_reducible rfl
                      rotate_left
                      · simp only [Act.put, List.setIfInBounds_toArray, List.set_cons_zero, List.set_cons_succ, iY, jB]
                        rfl
                      refine jP (i := 7) (N := some 19) (v := ?_) (a' := ?_) #[true, true, true, true, true, true, true, true, false, false, false, false, false, false, false, false, false, false, false] rfl rfl (jC HT_.out (by kernel_rfl)) (fun _ _ _ h => h) (Or.inl ⟨by rfl, ?_⟩) ?_ ?_
                      rotate_left
                      · intro w'
                        go_simp
                        with_reducible rfl
                      rotate_left
                      · simp only [Act.put, List.setIfInBounds_toArray, List.set_cons_zero, List.set_cons_succ, iY, jB]
                        rfl
                      refine jP (i := 8) (N := some 20) (v := ?_) (a' := ?_) #[true, true, true, true, true, true, true, true, true, false, false, false, false, false, false, false, false, false, false] rfl rfl (jC HT_.out (by kernel_rfl)) (fun _ _ _ h => h) (Or.inl ⟨by rfl, ?_⟩) ?_ ?_
                      rotate_left
                      · intro w'
                        go_simp
                        with_reducible rfl
                      rotate_left
                      · simp only [Act.put, List.setIfInBounds_toArray, List.set_cons_zero, List.set_cons_succ, iY, jB]
                        rfl
                      refine jP (i := 10) (N := some 22) (v := ?_) (a' := ?_) #[true, true, true, true, true, true, true, true, true, false, true, false, false, false, false, false, false, false, false] rfl rfl (jC HT_.out (by kernel_rfl)) (fun _ _ _ h => h) (Or.inl ⟨by rfl, ?_⟩) ?_ ?_
                      rotate_left
                      · intro w'
                        go_simp
                        with_reducible rfl
                      rotate_left
                      · simp only [Act.put, List.setIfInBounds_toArray, List.set_cons_zero, List.set_cons_succ, iY, jB]
                        rfl
                      refine jP (i := 11) (N := some 23) (v := ?_) (a' := ?_) #[true, true, true, true, true, true, true, true, true, false, true, true, false, false, false, false, false, false, false] rfl rfl (jC HT_.out (by kernel_rfl)) (fun _ _ _ h => h) (Or.inl ⟨by rfl, ?_⟩) ?_ ?_
                      rotate_left
                      · intro w'
                        go_simp
                        with_reducible rfl
                      rotate_left
                      · simp only [Act.put, List.setIfInBounds_toArray, List.set_cons_zero, List.set_cons_succ, iY, jB]
                        rfl
                      refine jP (i := 12) (N := some 24) (v := ?_) (a' := ?_) #[true, true, true, true, true, true, true, true, true, false, true, true, true, false, false, false, false, false, false] rfl rfl (jC HT_.out (by kernel_rfl)) (fun _ _ _ h => h) (Or.inl ⟨by rfl, ?_⟩) ?_ ?_
                      rotate_left
                      · intro w'
                        go_simp
                        with_reducible rfl
                      rotate_left
                      · simp only [Act.put, List.setIfInBounds_toArray, List.set_cons_zero, List.set_cons_succ, iY, jB]
                        rfl
                      refine jP (i := 13) (N := some 25) (v := ?_) (a' := ?_) #[true, true, true, true, true, true, true, true, true, false, true, true, true, true, false, false, false, false, false] rfl rfl (jC HT_.out (by kernel_rfl)) (fun _ _ _ h => h) (Or.inl ⟨by rfl, ?_⟩) ?_ ?_
                      rotate_left
                      · intro w'
                        go_simp
                        with_reducible rfl
                      rotate_left
                      · simp only [Act.put, List.setIfInBounds_toArray, List.set_cons_zero, List.set_cons_succ, iY, jB]
                        rfl
                      refine jP (i := 14) (N := some 26) (v := ?_) (a' := ?_) #[true, true, true, true, true, true, true, true, true, false, true, true, true, true, true, false, false, false, false] rfl rfl (jC HT_.out (by kernel_rfl)) (fun _ _ _ h => h) (Or.inl ⟨by rfl, ?_⟩) ?_ ?_
                      rotate_left
                      · intro w'
                        go_simp
                        with_reducible rfl
                      rotate_left
                      · simp only [Act.put, List.setIfInBounds_toArray, List.set_cons_zero, List.set_cons_succ, iY, jB]
                        rfl
                      refine yI (i := 9) (N := some 21) (v := ?_) (a' := ?_) #[true, true, true, true, true, true, true, true, true, true, true, true, true, true, true, false, false, false, false] rfl rfl (mY HT_.out HW_.out (by kernel_rfl)) (fun _ _ _ h => h) (Or.inl ⟨by rfl, ?_⟩) hHeld ?_ ?_
                      rotate_left
                      · rintro w' ⟨s0, s1, s2, s3⟩
                        go_simp
                        with_reducible rfl
                      rotate_left
                      · simp only [Act.put, List.setIfInBounds_toArray, List.set_cons_zero, List.set_cons_succ, iY, jB]
                        rfl
                      refine yI (i := 15) (N := some 27) (v := ?_) (a' := ?_) #[true, true, true, true, true, true, true, true, true, true, true, true, true, true, true, true, false, false, false] rfl rfl (mY HT_.out HW_.out (by kernel_rfl)) (fun _ _ _ h => h) (Or.inl ⟨by rfl, ?_⟩) hHeld ?_ ?_
                      rotate_left
                      · rintro w' ⟨s0, s1, s2, s3⟩
                        go_simp
                        with_reducible rfl
                      rotate_left
                      · simp only [Act.put, List.setIfInBounds_toArray, List.set_cons_zero, List.set_cons_succ, iY, jB]
                        rfl
                      refine jP (i := 16) (N := some 28) (v := ?_) (a' := ?_) #[true, true, true, true, true, true, true, true, true, true, true, true, true, true, true, true, true, false, false] rfl rfl (jC HT_.out (by kernel_rfl)) (fun _ _ _ h => h) (Or.inl ⟨by rfl, ?_⟩) ?_ ?_
                      rotate_left
                      · intro w'
                        go_simp
                        with_reducible rfl
                      rotate_left
                      · simp only [Act.put, List.setIfInBounds_toArray, List.set_cons_zero, List.set_cons_succ, iY, jB]
                        rfl
                      refine jP (i := 17) (N := some 29) (v := ?_) (a' := ?_) #[true, true, true, true, true, true, true, true, true, true, true, true, true, true, true, true, true, true, false] rfl rfl (jC HT_.out (by kernel_rfl)) (fun _ _ _ h => h) (Or.inl ⟨by rfl, ?_⟩) ?_ ?_
                      rotate_left
                      · intro w'
                        go_simp
                        with_reducible rfl
                      rotate_left
                      · simp only [Act.put, List.setIfInBounds_toArray, List.set_cons_zero, List.set_cons_succ, iY, jB]
                        rfl
                      refine jP (i := 18) (N := some 30) (v := ?_) (a' := ?_) #[true, true, true, true, true, true, true, true, true, true, true, true, true, true, true, true, true, true, true] rfl rfl (jC HT_.out (by kernel_rfl)) (fun _ _ _ h => h) (Or.inl ⟨by rfl, ?_⟩) ?_ ?_
                      rotate_left
                      · intro w'
                        go_simp
                        with_reducible rfl
                      rotate_left
                      · simp only [Act.put, List.setIfInBounds_toArray, List.set_cons_zero, List.set_cons_succ, iY, jB]
                        rfl
                      refine I9 (qB HT_.out (by kernel_rfl)) ?_
                      try go_wp2
                      go_ret
                      exact ⟨by first | rfl | (simp [iM, iO] <;> rfl) | (simp only [← hji8]; first | rfl | (simp [iM, iO] <;> rfl)) | (simp [*, iM, iO] <;> rfl), by repeat (first | (with_reducible first | exact HB.out | apply iF | apply iG | apply iH | refine iJ ?_ GE108.out) | exact HB.out)⟩
                    · rw [if_neg c11] at H
                      have c11b0 : decide (((iP l0 x7_1).f0) ≤ ((iP l0 (ji8)).f0)) = false := decide_eq_false c11
                      clear c11
                      have H' := iC.mk H
                      clear H
                      have p107 : 0 ≤ (x7_1 : Int) := of_decide_eq_true asm_
                      have q107 : x7_1 < (l0.length : Int) := of_decide_eq_true asm_
                      obtain ⟨ad107, A107_1, c107_1, e107, hx107_0, hx107_1, hl107_1, hi107_1⟩ := kV HR0.out x7_1 p107 q107
                      cases e107
                      replace hx107_0 := (HB.out.cell (World.block_lt_of_cell? w _ hx107_0)).trans hx107_0
                      replace hx107_1 := (HB.out.cell (World.block_lt_of_cell? w _ hx107_1)).trans hx107_1
                      have HR107_1 := iC.mk hi107_1
                      have HC107_1 := iC.mk hl107_1
                      clear hi107_1 hl107_1
                      replace p107 := eq_true p107
                      replace q107 := eq_true q107
                      try go_wp2_with (first | ((with_reducible refine jS (N := 4) rfl ?_); refine jI ?hg (N := 4) ?hd (cs := #[.int .u32 0, .slice none 0 0]) (t := 86) ?hr ?_; (case hd => rfl); (case hg => rfl); (case hr => first | (go_simp; done) | (go_simp; rfl)); intro gb108 hg w17 hbox hb; have n0_ := iC.mk (iI hb_ hb); have n1_ := iC.mk (hbox); have n2_ := iC.mk ((by rw [hg]; exact (iQ hb_) : w.heap.size ≤ gb108)); have n3_ := iC.mk ((by rw [hg]; exact (iQ hb_) : w.heap.size ≤ gb108)); clear HB; have HB := n0_; have BK108 := n1_; have GW108 := n2_; have GE108 := n3_; clear n0_ n1_ n2_ n3_; clear hb hbox hg; have hcz18_0 : w17.cell? ⟨gb108, 0, none⟩ = some (.int .u32 0) := (iE BK108.out 0).trans rfl; have hcz18_1 : w17.cell? ⟨gb108, 1, none⟩ = some (.slice none 0 0) := (iE BK108.out 1).trans rfl; have hfz18_0 := iD BK108.out 0; have hfz18_1 := iD BK108.out 1))
                      have n0_ : iC (((w17.setCell ⟨gb108, 0, none⟩ (.int .u32 ((iP l0 x7_1).f0))).setCell ⟨gb108, 1, none⟩ (.slice A107_1 ((iP l0 x7_1).f1).length c107_1)).heap[gb108]? = some (.cells #[.int .u32 ((iP l0 x7_1).f0), .slice A107_1 ((iP l0 x7_1).f1).length c107_1] 86 (0, 0))) := ⟨by (with_reducible repeat (first | refine kS ?_ _ | refine kJ ?_ | refine kM ?_ _)); refine lZ (cs := #[.int .u32 ((iP l0 x7_1).f0), .slice none 0 0]) ?_ 1 _ rfl; (with_reducible repeat (first | refine kS ?_ _ | refine kJ ?_ | refine kM ?_ _)); refine lZ (cs := #[.int .u32 0, .slice none 0 0]) ?_ 0 _ rfl; (with_reducible repeat (first | refine kS ?_ _ | refine kJ ?_ | refine kM ?_ _)); exact BK108.out⟩
                      have n1_ : iC (Below w.heap.size w ((w17.setCell ⟨gb108, 0, none⟩ (.int .u32 ((iP l0 x7_1).f0))).setCell ⟨gb108, 1, none⟩ (.slice A107_1 ((iP l0 x7_1).f1).length c107_1))) := ⟨by repeat (first | (with_reducible first | exact HB.out | apply iF | apply iG | apply iH | refine iJ ?_ GE108.out) | exact HB.out)⟩
                      (try clear BK108)
                      (try clear HB)
                      generalize ((w17.setCell ⟨gb108, 0, none⟩ (.int .u32 ((iP l0 x7_1).f0))).setCell ⟨gb108, 1, none⟩ (.slice A107_1 ((iP l0 x7_1).f1).length c107_1)) = w19 at n0_ n1_ ⊢
                      have BK108 := n0_
                      have HB := n1_
                      clear n0_ n1_
                      have n0_ := iC.mk (kJ BK108.out)
                      have n1_ := iC.mk (iH HB.out)
                      clear BK108
                      clear HB
                      have BK108 := n0_
                      have HB := n1_
                      clear n0_ n1_
                      have p110 : 0 ≤ ((ji8) : Int) := of_decide_eq_true asm_
                      have q110 : (ji8) < (l0.length : Int) := of_decide_eq_true asm_
                      obtain ⟨ad110, A110_1, c110_1, e110, hx110_0, hx110_1, hl110_1, hi110_1⟩ := kV HR0.out (ji8) p110 q110
                      have hw110_1 := hx110_1
                      have hw110_0 := hx110_0
                      obtain rfl : ad107 = ad110 := (by injection e110)
                      replace hx110_0 := (HB.out.cell (World.block_lt_of_cell? w _ hx110_0)).trans hx110_0
                      replace hx110_1 := (HB.out.cell (World.block_lt_of_cell? w _ hx110_1)).trans hx110_1
                      have HR110_1 := iC.mk hi110_1
                      have HC110_1 := iC.mk hl110_1
                      clear hi110_1 hl110_1
                      replace p110 := eq_true p110
                      replace q110 := eq_true q110
                      refine uM (n := 19) (S := fun w' => w'.cell? ⟨gb108, 0, none⟩ = some (.int .u32 ((iP l0 x7_1).f0)) ∧ w'.cell? ⟨gb108, 1, none⟩ = some (.slice A107_1 ((iP l0 x7_1).f1).length c107_1) ∧ w'.cell? (ad107.add (((ji8)).toNat * 2)) = some (.int .u32 ((iP l0 (ji8)).f0)) ∧ w'.cell? ⟨(ad107.add (((ji8)).toNat * 2)).block, (ad107.add (((ji8)).toNat * 2)).off + 1, none⟩ = some (.slice A110_1 ((iP l0 (ji8)).f1).length c110_1)) (ds := []) #[false, false, false, false, false, false, false, false, false, false, false, false, false, false, false, false, false, false, false] (by kernel_rfl) rfl rfl ⟨(iE BK108.out 0).trans rfl, (iE BK108.out 1).trans rfl, ((HB.out.cell (World.block_lt_of_cell? w _ hw110_0)).trans hw110_0), ((HB.out.cell (World.block_lt_of_cell? w _ hw110_1)).trans hw110_1)⟩ (fun hHeld => ?_); refine nJ code_history.tab4 code_history.bits4 (fun HT_ HW_ => ?_)
                      generalize w19.drew = w20 at BK108 HB HR110_1 hx110_0 hx110_1 hHeld ⊢
                      refine jP (i := 0) (N := some 12) (v := ?_) (a' := ?_) #[true, false, false, false, false, false, false, false, false, false, false, false, false, false, false, false, false, false, false] rfl rfl (jC HT_.out (by kernel_rfl)) (fun _ _ _ h => h) (Or.inl ⟨by rfl, ?_⟩) ?_ ?_
                      rotate_left
                      · intro w'
                        go_simp
                        with_reducible rfl
                      rotate_left
                      · simp only [Act.put, List.setIfInBounds_toArray, List.set_cons_zero, List.set_cons_succ, iY, jB]
                        rfl
                      refine yI (i := 1) (N := some 13) (v := ?_) (a' := ?_) #[true, true, false, false, false, false, false, false, false, false, false, false, false, false, false, false, false, false, false] rfl rfl (mY HT_.out HW_.out (by kernel_rfl)) (fun _ _ _ h => h) (Or.inl ⟨by rfl, ?_⟩) hHeld ?_ ?_
                      rotate_left
                      · rintro w' ⟨s0, s1, s2, s3⟩
                        go_simp
                        with_reducible rfl
                      rotate_left
                      · simp only [Act.put, List.setIfInBounds_toArray, List.set_cons_zero, List.set_cons_succ, iY, jB]
                        rfl
                      refine one_ (i := 2) (N := some 14) #[true, true, true, false, false, false, false, false, false, false, false, false, false, false, false, false, false, false, false] rfl rfl (mJ HT_.out (by kernel_rfl)) (by decide) (fun K hK => ?_)
                      refine rE Tryd.func62 (by kernel_rfl) rfl #[.slice A107_1 ((iP l0 x7_1).f1).length c107_1] (by rfl) rfl rfl (by (try simp only [List.map_toArray, List.map_cons, List.map_nil]); first | done | rfl | (simp only [List.length_drop, List.length_take]; rfl)) ?_
                      with_reducible refine (code_batch.calls _ _ ((iP l0 x7_1).f1) true _ ?side1 ?side2 A5.out).mono ?_
                      (case side1 => repeat (first | exact (Kd.C_below HR107_1.out HB.out) | (with_reducible refine Kd.C_alloc ?_ _) | (with_reducible refine Kd.C_drewN ?_ _) | (with_reducible refine Kd.C_drew ?_)))
                      (case side2 => exact HC107_1.out)
                      rintro e w21 ⟨rfl, hb⟩
                      refine ⟨_, rfl, ?_⟩
                      have n0_ := iC.mk (jF (g := gb108) (o := .cells #[.int .u32 ((iP l0 x7_1).f0), .slice A107_1 ((iP l0 x7_1).f1).length c107_1] 86 (0, 0)) (bk_ BK108.out) hb)
                      have n1_ := iC.mk (iI (by repeat (first | (with_reducible first | exact HB.out | apply iF | apply iG | apply iH | refine iJ ?_ GE108.out) | exact HB.out)) hb)
                      clear BK108
                      clear HB
                      have BK108 := n0_
                      have HB := n1_
                      clear n0_ n1_
                      (try clear hb)
                      (try clear hb2)
                      (try clear hk)
                      (try clear hi)
                      refine hK.out _ _ ⟨(iE BK108.out 0).trans rfl, (iE BK108.out 1).trans rfl, ((HB.out.cell (World.block_lt_of_cell? w _ hw110_0)).trans hw110_0), ((HB.out.cell (World.block_lt_of_cell? w _ hw110_1)).trans hw110_1)⟩ (fun hHeld => ?_)
                      clear hK K
                      refine lK (a' := ?_) ?_ ?_
                      rotate_left
                      · show Act.put _ (some 14) _ = _
                        simp only [Act.put, List.setIfInBounds_toArray, List.set_cons_zero, List.set_cons_succ, iY, jB]
                        rfl
                      refine jP (i := 3) (N := some 15) (v := ?_) (a' := ?_) #[true, true, true, true, false, false, false, false, false, false, false, false, false, false, false, false, false, false, false] rfl rfl (jC HT_.out (by kernel_rfl)) (fun _ _ _ h => h) (Or.inl ⟨by rfl, ?_⟩) ?_ ?_
                      rotate_left
                      · intro w'
                        go_simp
                        with_reducible rfl
                      rotate_left
                      · simp only [Act.put, List.setIfInBounds_toArray, List.set_cons_zero, List.set_cons_succ, iY, jB]
                        rfl
                      refine jP (i := 4) (N := some 16) (v := ?_) (a' := ?_) #[true, true, true, true, true, false, false, false, false, false, false, false, false, false, false, false, false, false, false] rfl rfl (jC HT_.out (by kernel_rfl)) (fun _ _ _ h => h) (Or.inl ⟨by rfl, ?_⟩) ?_ ?_
                      rotate_left
                      · intro w'
                        go_simp
                        with_reducible rfl
                      rotate_left
                      · simp only [Act.put, List.setIfInBounds_toArray, List.set_cons_zero, List.set_cons_succ, iY, jB]
                        rfl
                      refine jP (i := 5) (N := some 17) (v := ?_) (a' := ?_) #[true, true, true, true, true, true, false, false, false, false, false, false, false, false, false, false, false, false, false] rfl rfl (jC HT_.out (by kernel_rfl)) (fun _ _ _ h => h) (Or.inl ⟨by rfl, ?_⟩) ?_ ?_
                      rotate_left
                      · intro w'
                        go_simp
                        with_reducible rfl
                      rotate_left
                      · simp only [Act.put, List.setIfInBounds_toArray, List.set_cons_zero, List.set_cons_succ, iY, jB]
                        rfl
                      refine jP (i := 6) (N := some 18) (v := ?_) (a' := ?_) #[true, true, true, true, true, true, true, false, false, false, false, false, false, false, false, false, false, false, false] rfl rfl (jC HT_.out (by kernel_rfl)) (fun _ _ _ h => h) (Or.inl ⟨by rfl, ?_⟩) ?_ ?_
                      rotate_left
                      · intro w'
                        go_simp
                        with_reducible rfl
                      rotate_left
                      · simp only [Act.put, List.setIfInBounds_toArray, List.set_cons_zero, List.set_cons_succ, iY, jB]
                        rfl
                      refine jP (i := 7) (N := some 19) (v := ?_) (a' := ?_) #[true, true, true, true, true, true, true, true, false, false, false, false, false, false, false, false, false, false, false] rfl rfl (jC HT_.out (by kernel_rfl)) (fun _ _ _ h => h) (Or.inl ⟨by rfl, ?_⟩) ?_ ?_
                      rotate_left
                      · intro w'
                        go_simp
                        with_reducible rfl
                      rotate_left
                      · simp only [Act.put, List.setIfInBounds_toArray, List.set_cons_zero, List.set_cons_succ, iY, jB]
                        rfl
                      refine jP (i := 8) (N := some 20) (v := ?_) (a' := ?_) #[true, true, true, true, true, true, true, true, true, false, false, false, false, false, false, false, false, false, false] rfl rfl (jC HT_.out (by kernel_rfl)) (fun _ _ _ h => h) (Or.inl ⟨by rfl, ?_⟩) ?_ ?_
                      rotate_left
                      · intro w'
                        go_simp
                        with_reducible rfl
                      rotate_left
                      · simp only [Act.put, List.setIfInBounds_toArray, List.set_cons_zero, List.set_cons_succ, iY, jB]
                        rfl
                      refine jP (i := 10) (N := some 22) (v := ?_) (a' := ?_) #[true, true, true, true, true, true, true, true, true, false, true, false, false, false, false, false, false, false, false] rfl rfl (jC HT_.out (by kernel_rfl)) (fun _ _ _ h => h) (Or.inl ⟨by rfl, ?_⟩) ?_ ?_
                      rotate_left
                      · intro w'
                        go_simp
                        with_reducible rfl
                      rotate_left
                      · simp only [Act.put, List.setIfInBounds_toArray, List.set_cons_zero, List.set_cons_succ, iY, jB]
                        rfl
                      refine jP (i := 11) (N := some 23) (v := ?_) (a' := ?_) #[true, true, true, true, true, true, true, true, true, false, true, true, false, false, false, false, false, false, false] rfl rfl (jC HT_.out (by kernel_rfl)) (fun _ _ _ h => h) (Or.inl ⟨by rfl, ?_⟩) ?_ ?_
                      rotate_left
                      · intro w'
                        go_simp
                        with_reducible rfl
                      rotate_left
                      · simp only [Act.put, List.setIfInBounds_toArray, List.set_cons_zero, List.set_cons_succ, iY, jB]
                        rfl
                      refine jP (i := 12) (N := some 24) (v := ?_) (a' := ?_) #[true, true, true, true, true, true, true, true, true, false, true, true, true, false, false, false, false, false, false] rfl rfl (jC HT_.out (by kernel_rfl)) (fun _ _ _ h => h) (Or.inl ⟨by rfl, ?_⟩) ?_ ?_
                      rotate_left
                      · intro w'
                        go_simp
                        with_reducible rfl
                      rotate_left
                      · simp only [Act.put, List.setIfInBounds_toArray, List.set_cons_zero, List.set_cons_succ, iY, jB]
                        rfl
                      refine jP (i := 13) (N := some 25) (v := ?_) (a' := ?_) #[true, true, true, true, true, true, true, true, true, false, true, true, true, true, false, false, false, false, false] rfl rfl (jC HT_.out (by kernel_rfl)) (fun _ _ _ h => h) (Or.inl ⟨by rfl, ?_⟩) ?_ ?_
                      rotate_left
                      · intro w'
                        go_simp
                        with_reducible rfl
                      rotate_left
                      · simp only [Act.put, List.setIfInBounds_toArray, List.set_cons_zero, List.set_cons_succ, iY, jB]
                        rfl
                      refine jP (i := 14) (N := some 26) (v := ?_) (a' := ?_) #[true, true, true, true, true, true, true, true, true, false, true, true, true, true, true, false, false, false, false] rfl rfl (jC HT_.out (by kernel_rfl)) (fun _ _ _ h => h) (Or.inl ⟨by rfl, ?_⟩) ?_ ?_
                      rotate_left
                      · intro w'
                        go_simp
                        with_reducible rfl
                      rotate_left
                      · simp only [Act.put, List.setIfInBounds_toArray, List.set_cons_zero, List.set_cons_succ, iY, jB]
                        rfl
                      refine yI (i := 9) (N := some 21) (v := ?_) (a' := ?_) #[true, true, true, true, true, true, true, true, true, true, true, true, true, true, true, false, false, false, false] rfl rfl (mY HT_.out HW_.out (by kernel_rfl)) (fun _ _ _ h => h) (Or.inl ⟨by rfl, ?_⟩) hHeld ?_ ?_
                      rotate_left
                      · rintro w' ⟨s0, s1, s2, s3⟩
                        go_simp
                        with_reducible rfl
                      rotate_left
                      · simp only [Act.put, List.setIfInBounds_toArray, List.set_cons_zero, List.set_cons_succ, iY, jB]
                        rfl
                      refine yI (i := 15) (N := some 27) (v := ?_) (a' := ?_) #[true, true, true, true, true, true, true, true, true, true, true, true, true, true, true, true, false, false, false] rfl rfl (mY HT_.out HW_.out (by kernel_rfl)) (fun _ _ _ h => h) (Or.inl ⟨by rfl, ?_⟩) hHeld ?_ ?_
                      rotate_left
                      · rintro w' ⟨s0, s1, s2, s3⟩
                        go_simp
                        with_reducible rfl
                      rotate_left
                      · simp only [Act.put, List.setIfInBounds_toArray, List.set_cons_zero, List.set_cons_succ, iY, jB]
                        rfl
                      refine jP (i := 16) (N := some 28) (v := ?_) (a' := ?_) #[true, true, true, true, true, true, true, true, true, true, true, true, true, true, true, true, true, false, false] rfl rfl (jC HT_.out (by kernel_rfl)) (fun _ _ _ h => h) (Or.inl ⟨by rfl, ?_⟩) ?_ ?_
                      rotate_left
                      · intro w'
                        go_simp
                        with_reducible rfl
                      rotate_left
                      · simp only [Act.put, List.setIfInBounds_toArray, List.set_cons_zero, List.set_cons_succ, iY, jB]
                        rfl
                      refine jP (i := 17) (N := some 29) (v := ?_) (a' := ?_) #[true, true, true, true, true, true, true, true, true, true, true, true, true, true, true, true, true, true, false] rfl rfl (jC HT_.out (by kernel_rfl)) (fun _ _ _ h => h) (Or.inl ⟨by rfl, ?_⟩) ?_ ?_
                      rotate_left
                      · intro w'
                        go_simp
                        with_reducible rfl
                      rotate_left
                      · simp only [Act.put, List.setIfInBounds_toArray, List.set_cons_zero, List.set_cons_succ, iY, jB]
                        rfl
                      refine jP (i := 18) (N := some 30) (v := ?_) (a' := ?_) #[true, true, true, true, true, true, true, true, true, true, true, true, true, true, true, true, true, true, true] rfl rfl (jC HT_.out (by kernel_rfl)) (fun _ _ _ h => h) (Or.inl ⟨by rfl, ?_⟩) ?_ ?_
                      rotate_left
                      · intro w'
                        go_simp
                        with_reducible rfl
                      rotate_left
                      · simp only [Act.put, List.setIfInBounds_toArray, List.set_cons_zero, List.set_cons_succ, iY, jB]
                        rfl
                      refine I9 (qB HT_.out (by kernel_rfl)) ?_
                      try go_wp2
                      go_roundg k1
                      case measure => have := HK1.out; omega
                      case rel => exact ⟨(wrap64 (x7_1 + 1)), (by first | rfl | (simp; done) | (simp [*]; done)), H', ⟨by have := HK1.out; omega⟩, ⟨by repeat (first | (with_reducible first | exact HB.out | apply iF | apply iG | apply iH | refine iJ ?_ GE108.out) | exact HB.out)⟩⟩
                  · rw [if_neg c10] at H
                    exact absurd H (by simp)
                · rw [if_neg c9] at H
                  exact absurd H (by simp)
              · rw [if_neg c7] at H
                have c7b0 : decide (0 < x7_1) = false := decide_eq_false c7
                clear c7
                have H' := iC.mk H
                clear H
                have p107 : 0 ≤ (x7_1 : Int) := of_decide_eq_true asm_
                have q107 : x7_1 < (l0.length : Int) := of_decide_eq_true asm_
                obtain ⟨ad107, A107_1, c107_1, e107, hx107_0, hx107_1, hl107_1, hi107_1⟩ := kV HR0.out x7_1 p107 q107
                cases e107
                replace hx107_0 := (HB.out.cell (World.block_lt_of_cell? w _ hx107_0)).trans hx107_0
                replace hx107_1 := (HB.out.cell (World.block_lt_of_cell? w _ hx107_1)).trans hx107_1
                have HR107_1 := iC.mk hi107_1
                have HC107_1 := iC.mk hl107_1
                clear hi107_1 hl107_1
                replace p107 := eq_true p107
                replace q107 := eq_true q107
                try go_wp2_with (first | ((with_reducible refine jS (N := 4) rfl ?_); refine jI ?hg (N := 4) ?hd (cs := #[.int .u32 0, .slice none 0 0]) (t := 86) ?hr ?_; (case hd => rfl); (case hg => rfl); (case hr => first | (go_simp; done) | (go_simp; rfl)); intro gb108 hg w22 hbox hb; have n0_ := iC.mk (iI hb_ hb); have n1_ := iC.mk (hbox); have n2_ := iC.mk ((by rw [hg]; exact (iQ hb_) : w.heap.size ≤ gb108)); have n3_ := iC.mk ((by rw [hg]; exact (iQ hb_) : w.heap.size ≤ gb108)); clear HB; have HB := n0_; have BK108 := n1_; have GW108 := n2_; have GE108 := n3_; clear n0_ n1_ n2_ n3_; clear hb hbox hg; have hcz23_0 : w22.cell? ⟨gb108, 0, none⟩ = some (.int .u32 0) := (iE BK108.out 0).trans rfl; have hcz23_1 : w22.cell? ⟨gb108, 1, none⟩ = some (.slice none 0 0) := (iE BK108.out 1).trans rfl; have hfz23_0 := iD BK108.out 0; have hfz23_1 := iD BK108.out 1))
                have n0_ : iC (((w22.setCell ⟨gb108, 0, none⟩ (.int .u32 ((iP l0 x7_1).f0))).setCell ⟨gb108, 1, none⟩ (.slice A107_1 ((iP l0 x7_1).f1).length c107_1)).heap[gb108]? = some (.cells #[.int .u32 ((iP l0 x7_1).f0), .slice A107_1 ((iP l0 x7_1).f1).length c107_1] 86 (0, 0))) := ⟨by (with_reducible repeat (first | refine kS ?_ _ | refine kJ ?_ | refine kM ?_ _)); refine lZ (cs := #[.int .u32 ((iP l0 x7_1).f0), .slice none 0 0]) ?_ 1 _ rfl; (with_reducible repeat (first | refine kS ?_ _ | refine kJ ?_ | refine kM ?_ _)); refine lZ (cs := #[.int .u32 0, .slice none 0 0]) ?_ 0 _ rfl; (with_reducible repeat (first | refine kS ?_ _ | refine kJ ?_ | refine kM ?_ _)); exact BK108.out⟩
                have n1_ : iC (Below w.heap.size w ((w22.setCell ⟨gb108, 0, none⟩ (.int .u32 ((iP l0 x7_1).f0))).setCell ⟨gb108, 1, none⟩ (.slice A107_1 ((iP l0 x7_1).f1).length c107_1))) := ⟨by repeat (first | (with_reducible first | exact HB.out | apply iF | apply iG | apply iH | refine iJ ?_ GE108.out) | exact HB.out)⟩
                (try clear BK108)
                (try clear HB)
                generalize ((w22.setCell ⟨gb108, 0, none⟩ (.int .u32 ((iP l0 x7_1).f0))).setCell ⟨gb108, 1, none⟩ (.slice A107_1 ((iP l0 x7_1).f1).length c107_1)) = w24 at n0_ n1_ ⊢
                have BK108 := n0_
                have HB := n1_
                clear n0_ n1_
                have n0_ := iC.mk (kJ BK108.out)
                have n1_ := iC.mk (iH HB.out)
                clear BK108
                clear HB
                have BK108 := n0_
                have HB := n1_
                clear n0_ n1_
                refine uM (n := 19) (S := fun w' => w'.cell? ⟨gb108, 0, none⟩ = some (.int .u32 ((iP l0 x7_1).f0)) ∧ w'.cell? ⟨gb108, 1, none⟩ = some (.slice A107_1 ((iP l0 x7_1).f1).length c107_1)) (ds := []) #[false, false, false, false, false, false, false, false, false, false, false, false, false, false, false, false, false, false, false] (by kernel_rfl) rfl rfl ⟨(iE BK108.out 0).trans rfl, (iE BK108.out 1).trans rfl⟩ (fun hHeld => ?_); refine nJ code_history.tab4 code_history.bits4 (fun HT_ HW_ => ?_)
                generalize w24.drew = w25 at BK108 HB hHeld ⊢
                refine jP (i := 0) (N := some 12) (v := ?_) (a' := ?_) #[true, false, false, false, false, false, false, false, false, false, false, false, false, false, false, false, false, false, false] rfl rfl (jC HT_.out (by kernel_rfl)) (fun _ _ _ h => h) (Or.inl ⟨by rfl, ?_⟩) ?_ ?_
                rotate_left
                · intro w'
                  go_simp
                  with_reducible rfl
                rotate_left
                · simp only [Act.put, List.setIfInBounds_toArray, List.set_cons_zero, List.set_cons_succ, iY, jB]
                  rfl
                refine yI (i := 1) (N := some 13) (v := ?_) (a' := ?_) #[true, true, false, false, false, false, false, false, false, false, false, false, false, false, false, false, false, false, false] rfl rfl (mY HT_.out HW_.out (by kernel_rfl)) (fun _ _ _ h => h) (Or.inl ⟨by rfl, ?_⟩) hHeld ?_ ?_
                rotate_left
                · rintro w' ⟨s0, s1⟩
                  go_simp
                  with_reducible rfl
                rotate_left
                · simp only [Act.put, List.setIfInBounds_toArray, List.set_cons_zero, List.set_cons_succ, iY, jB]
                  rfl
                refine one_ (i := 2) (N := some 14) #[true, true, true, false, false, false, false, false, false, false, false, false, false, false, false, false, false, false, false] rfl rfl (mJ HT_.out (by kernel_rfl)) (by decide) (fun K hK => ?_)
                refine rE Tryd.func62 (by kernel_rfl) rfl #[.slice A107_1 ((iP l0 x7_1).f1).length c107_1] (by rfl) rfl rfl (by (try simp only [List.map_toArray, List.map_cons, List.map_nil]); first | done | rfl | (simp only [List.length_drop, List.length_take]; rfl)) ?_
                with_reducible refine (code_batch.calls _ _ ((iP l0 x7_1).f1) true _ ?side1 ?side2 A5.out).mono ?_
                (case side1 => repeat (first | exact (Kd.C_below HR107_1.out HB.out) | (with_reducible refine Kd.C_alloc ?_ _) | (with_reducible refine Kd.C_drewN ?_ _) | (with_reducible refine Kd.C_drew ?_)))
                (case side2 => exact HC107_1.out)
                rintro e w26 ⟨rfl, hb⟩
                refine ⟨_, rfl, ?_⟩
                have n0_ := iC.mk (jF (g := gb108) (o := .cells #[.int .u32 ((iP l0 x7_1).f0), .slice A107_1 ((iP l0 x7_1).f1).length c107_1] 86 (0, 0)) (bk_ BK108.out) hb)
                have n1_ := iC.mk (iI (by repeat (first | (with_reducible first | exact HB.out | apply iF | apply iG | apply iH | refine iJ ?_ GE108.out) | exact HB.out)) hb)
                clear BK108
                clear HB
                have BK108 := n0_
                have HB := n1_
                clear n0_ n1_
                (try clear hb)
                (try clear hb2)
                (try clear hk)
                (try clear hi)
                refine hK.out _ _ ⟨(iE BK108.out 0).trans rfl, (iE BK108.out 1).trans rfl⟩ (fun hHeld => ?_)
                clear hK K
                refine lK (a' := ?_) ?_ ?_
                rotate_left
                · show Act.put _ (some 14) _ = _
                  simp only [Act.put, List.setIfInBounds_toArray, List.set_cons_zero, List.set_cons_succ, iY, jB]
                  rfl
                refine jP (i := 3) (N := some 15) (v := ?_) (a' := ?_) #[true, true, true, true, false, false, false, false, false, false, false, false, false, false, false, false, false, false, false] rfl rfl (jC HT_.out (by kernel_rfl)) (fun _ _ _ h => h) (Or.inl ⟨by rfl, ?_⟩) ?_ ?_
                rotate_left
                · intro w'
                  go_simp
                  with_reducible rfl
                rotate_left
                · simp only [Act.put, List.setIfInBounds_toArray, List.set_cons_zero, List.set_cons_succ, iY, jB]
                  rfl
                refine jP (i := 4) (N := some 16) (v := ?_) (a' := ?_) #[true, true, true, true, true, false, false, false, false, false, false, false, false, false, false, false, false, false, false] rfl rfl (jC HT_.out (by kernel_rfl)) (fun _ _ _ h => h) (Or.inl ⟨by rfl, ?_⟩) ?_ ?_
                rotate_left
                · intro w'
                  go_simp
                  with_reducible rfl
                rotate_left
                · simp only [Act.put, List.setIfInBounds_toArray, List.set_cons_zero, List.set_cons_succ, iY, jB]
                  rfl
                refine jP (i := 5) (N := some 17) (v := ?_) (a' := ?_) #[true, true, true, true, true, true, false, false, false, false, false, false, false, false, false, false, false, false, false] rfl rfl (jC HT_.out (by kernel_rfl)) (fun _ _ _ h => h) (Or.inl ⟨by rfl, ?_⟩) ?_ ?_
                rotate_left
                · intro w'
                  go_simp
                  with_reducible rfl
                rotate_left
                · simp only [Act.put, List.setIfInBounds_toArray, List.set_cons_zero, List.set_cons_succ, iY, jB]
                  rfl
                refine jP (i := 6) (N := some 18) (v := ?_) (a' := ?_) #[true, true, true, true, true, true, true, false, false, false, false, false, false, false, false, false, false, false, false] rfl rfl (jC HT_.out (by kernel_rfl)) (fun _ _ _ h => h) (Or.inl ⟨by rfl, ?_⟩) ?_ ?_
                rotate_left
                · intro w'
                  go_simp
                  with_reducible rfl
                rotate_left
                · simp only [Act.put, List.setIfInBounds_toArray, List.set_cons_zero, List.set_cons_succ, iY, jB]
                  rfl
                refine jP (i := 7) (N := some 19) (v := ?_) (a' := ?_) #[true, true, true, true, true, true, true, true, false, false, false, false, false, false, false, false, false, false, false] rfl rfl (jC HT_.out (by kernel_rfl)) (fun _ _ _ h => h) (Or.inl ⟨by rfl, ?_⟩) ?_ ?_
                rotate_left
                · intro w'
                  go_simp
                  with_reducible rfl
                rotate_left
                · simp only [Act.put, List.setIfInBounds_toArray, List.set_cons_zero, List.set_cons_succ, iY, jB]
                  rfl
                refine jP (i := 8) (N := some 20) (v := undef) (a' := ?_) #[true, true, true, true, true, true, true, true, true, false, false, false, false, false, false, false, false, false, false] rfl rfl (jC HT_.out (by kernel_rfl)) (fun _ _ _ h => h) (Or.inr ⟨by rfl, rfl⟩) ?_ ?_
                rotate_left
                · simp only [Act.put, List.setIfInBounds_toArray, List.set_cons_zero, List.set_cons_succ, iY, jB]
                  rfl
                refine jP (i := 9) (N := some 21) (v := undef) (a' := ?_) #[true, true, true, true, true, true, true, true, true, true, false, false, false, false, false, false, false, false, false] rfl rfl (jC HT_.out (by kernel_rfl)) (fun _ _ _ h => h) (Or.inr ⟨by rfl, rfl⟩) ?_ ?_
                rotate_left
                · simp only [Act.put, List.setIfInBounds_toArray, List.set_cons_zero, List.set_cons_succ, iY, jB]
                  rfl
                refine jP (i := 10) (N := some 22) (v := undef) (a' := ?_) #[true, true, true, true, true, true, true, true, true, true, true, false, false, false, false, false, false, false, false] rfl rfl (jC HT_.out (by kernel_rfl)) (fun _ _ _ h => h) (Or.inr ⟨by rfl, rfl⟩) ?_ ?_
                rotate_left
                · simp only [Act.put, List.setIfInBounds_toArray, List.set_cons_zero, List.set_cons_succ, iY, jB]
                  rfl
                refine jP (i := 11) (N := some 23) (v := undef) (a' := ?_) #[true, true, true, true, true, true, true, true, true, true, true, true, false, false, false, false, false, false, false] rfl rfl (jC HT_.out (by kernel_rfl)) (fun _ _ _ h => h) (Or.inr ⟨by rfl, rfl⟩) ?_ ?_
                rotate_left
                · simp only [Act.put, List.setIfInBounds_toArray, List.set_cons_zero, List.set_cons_succ, iY, jB]
                  rfl
                refine jP (i := 12) (N := some 24) (v := undef) (a' := ?_) #[true, true, true, true, true, true, true, true, true, true, true, true, true, false, false, false, false, false, false] rfl rfl (jC HT_.out (by kernel_rfl)) (fun _ _ _ h => h) (Or.inr ⟨by rfl, rfl⟩) ?_ ?_
                rotate_left
                · simp only [Act.put, List.setIfInBounds_toArray, List.set_cons_zero, List.set_cons_succ, iY, jB]
                  rfl
                refine jP (i := 13) (N := some 25) (v := undef) (a' := ?_) #[true, true, true, true, true, true, true, true, true, true, true, true, true, true, false, false, false, false, false] rfl rfl (jC HT_.out (by kernel_rfl)) (fun _ _ _ h => h) (Or.inr ⟨by rfl, rfl⟩) ?_ ?_
                rotate_left
                · simp only [Act.put, List.setIfInBounds_toArray, List.set_cons_zero, List.set_cons_succ, iY, jB]
                  rfl
                refine jP (i := 14) (N := some 26) (v := undef) (a' := ?_) #[true, true, true, true, true, true, true, true, true, true, true, true, true, true, true, false, false, false, false] rfl rfl (jC HT_.out (by kernel_rfl)) (fun _ _ _ h => h) (Or.inr ⟨by rfl, rfl⟩) ?_ ?_
                rotate_left
                · simp only [Act.put, List.setIfInBounds_toArray, List.set_cons_zero, List.set_cons_succ, iY, jB]
                  rfl
                refine jP (i := 15) (N := some 27) (v := undef) (a' := ?_) #[true, true, true, true, true, true, true, true, true, true, true, true, true, true, true, true, false, false, false] rfl rfl (jC HT_.out (by kernel_rfl)) (fun _ _ _ h => h) (Or.inr ⟨by rfl, rfl⟩) ?_ ?_
                rotate_left
                · simp only [Act.put, List.setIfInBounds_toArray, List.set_cons_zero, List.set_cons_succ, iY, jB]
                  rfl
                refine jP (i := 16) (N := some 28) (v := undef) (a' := ?_) #[true, true, true, true, true, true, true, true, true, true, true, true, true, true, true, true, true, false, false] rfl rfl (jC HT_.out (by kernel_rfl)) (fun _ _ _ h => h) (Or.inr ⟨by rfl, rfl⟩) ?_ ?_
                rotate_left
                · simp only [Act.put, List.setIfInBounds_toArray, List.set_cons_zero, List.set_cons_succ, iY, jB]
                  rfl
                refine jP (i := 17) (N := some 29) (v := ?_) (a' := ?_) #[true, true, true, true, true, true, true, true, true, true, true, true, true, true, true, true, true, true, false] rfl rfl (jC HT_.out (by kernel_rfl)) (fun _ _ _ h => h) (Or.inl ⟨by rfl, ?_⟩) ?_ ?_
                rotate_left
                · intro w'
                  go_simp
                  with_reducible rfl
                rotate_left
                · simp only [Act.put, List.setIfInBounds_toArray, List.set_cons_zero, List.set_cons_succ, iY, jB]
                  rfl
                refine jP (i := 18) (N := some 30) (v := ?_) (a' := ?_) #[true, true, true, true, true, true, true, true, true, true, true, true, true, true, true, true, true, true, true] rfl rfl (jC HT_.out (by kernel_rfl)) (fun _ _ _ h => h) (Or.inl ⟨by rfl, ?_⟩) ?_ ?_
                rotate_left
                · intro w'
                  go_simp
                  with_reducible rfl
                rotate_left
                · simp only [Act.put, List.setIfInBounds_toArray, List.set_cons_zero, List.set_cons_succ, iY, jB]
                  rfl
                refine I9 (qB HT_.out (by kernel_rfl)) ?_
                try go_wp2
                go_roundg k1
                case measure => have := HK1.out; omega
                case rel => exact ⟨(wrap64 (x7_1 + 1)), (by first | rfl | (simp; done) | (simp [*]; done)), H', ⟨by have := HK1.out; omega⟩, ⟨by repeat (first | (with_reducible first | exact HB.out | apply iF | apply iG | apply iH | refine iJ ?_ GE108.out) | exact HB.out)⟩⟩
            · replace c6 := Bool.eq_false_iff.mpr c6
              subst c6
              have H1 : (some false) = some r := by rw [if_neg (show ¬ (false = true) by decide)] at H; exact H
              clear H
              have H := H1
              clear H1
              obtain rfl := Option.some.inj H
              have p107 : 0 ≤ (x7_1 : Int) := of_decide_eq_true asm_
              have q107 : x7_1 < (l0.length : Int) := of_decide_eq_true asm_
              obtain ⟨ad107, A107_1, c107_1, e107, hx107_0, hx107_1, hl107_1, hi107_1⟩ := kV HR0.out x7_1 p107 q107
              cases e107
              replace hx107_0 := (HB.out.cell (World.block_lt_of_cell? w _ hx107_0)).trans hx107_0
              replace hx107_1 := (HB.out.cell (World.block_lt_of_cell? w _ hx107_1)).trans hx107_1
              have HR107_1 := iC.mk hi107_1
              have HC107_1 := iC.mk hl107_1
              clear hi107_1 hl107_1
              replace p107 := eq_true p107
              replace q107 := eq_true q107
              try go_wp2_with (first | ((with_reducible refine jS (N := 4) rfl ?_); refine jI ?hg (N := 4) ?hd (cs := #[.int .u32 0, .slice none 0 0]) (t := 86) ?hr ?_; (case hd => rfl); (case hg => rfl); (case hr => first | (go_simp; done) | (go_simp; rfl)); intro gb108 hg w27 hbox hb; have n0_ := iC.mk (iI hb_ hb); have n1_ := iC.mk (hbox); have n2_ := iC.mk ((by rw [hg]; exact (iQ hb_) : w.heap.size ≤ gb108)); have n3_ := iC.mk ((by rw [hg]; exact (iQ hb_) : w.heap.size ≤ gb108)); clear HB; have HB := n0_; have BK108 := n1_; have GW108 := n2_; have GE108 := n3_; clear n0_ n1_ n2_ n3_; clear hb hbox hg; have hcz28_0 : w27.cell? ⟨gb108, 0, none⟩ = some (.int .u32 0) := (iE BK108.out 0).trans rfl; have hcz28_1 : w27.cell? ⟨gb108, 1, none⟩ = some (.slice none 0 0) := (iE BK108.out 1).trans rfl; have hfz28_0 := iD BK108.out 0; have hfz28_1 := iD BK108.out 1))
              have n0_ : iC (((w27.setCell ⟨gb108, 0, none⟩ (.int .u32 ((iP l0 x7_1).f0))).setCell ⟨gb108, 1, none⟩ (.slice A107_1 ((iP l0 x7_1).f1).length c107_1)).heap[gb108]? = some (.cells #[.int .u32 ((iP l0 x7_1).f0), .slice A107_1 ((iP l0 x7_1).f1).length c107_1] 86 (0, 0))) := ⟨by (with_reducible repeat (first | refine kS ?_ _ | refine kJ ?_ | refine kM ?_ _)); refine lZ (cs := #[.int .u32 ((iP l0 x7_1).f0), .slice none 0 0]) ?_ 1 _ rfl; (with_reducible repeat (first | refine kS ?_ _ | refine kJ ?_ | refine kM ?_ _)); refine lZ (cs := #[.int .u32 0, .slice none 0 0]) ?_ 0 _ rfl; (with_reducible repeat (first | refine kS ?_ _ | refine kJ ?_ | refine kM ?_ _)); exact BK108.out⟩
              have n1_ : iC (Below w.heap.size w ((w27.setCell ⟨gb108, 0, none⟩ (.int .u32 ((iP l0 x7_1).f0))).setCell ⟨gb108, 1, none⟩ (.slice A107_1 ((iP l0 x7_1).f1).length c107_1))) := ⟨by repeat (first | (with_reducible first | exact HB.out | apply iF | apply iG | apply iH | refine iJ ?_ GE108.out) | exact HB.out)⟩
              (try clear BK108)
              (try clear HB)
              generalize ((w27.setCell ⟨gb108, 0, none⟩ (.int .u32 ((iP l0 x7_1).f0))).setCell ⟨gb108, 1, none⟩ (.slice A107_1 ((iP l0 x7_1).f1).length c107_1)) = w29 at n0_ n1_ ⊢
              have BK108 := n0_
              have HB := n1_
              clear n0_ n1_
              have n0_ := iC.mk (kJ BK108.out)
              have n1_ := iC.mk (iH HB.out)
              clear BK108
              clear HB
              have BK108 := n0_
              have HB := n1_
              clear n0_ n1_
              refine uM (n := 19) (S := fun w' => w'.cell? ⟨gb108, 0, none⟩ = some (.int .u32 ((iP l0 x7_1).f0)) ∧ w'.cell? ⟨gb108, 1, none⟩ = some (.slice A107_1 ((iP l0 x7_1).f1).length c107_1)) (ds := []) #[false, false, false, false, false, false, false, false, false, false, false, false, false, false, false, false, false, false, false] (by kernel_rfl) rfl rfl ⟨(iE BK108.out 0).trans rfl, (iE BK108.out 1).trans rfl⟩ (fun hHeld => ?_); refine nJ code_history.tab4 code_history.bits4 (fun HT_ HW_ => ?_)
              generalize w29.drew = w30 at BK108 HB hHeld ⊢
              refine jP (i := 0) (N := some 12) (v := ?_) (a' := ?_) #[true, false, false, false, false, false, false, false, false, false, false, false, false, false, false, false, false, false, false] rfl rfl (jC HT_.out (by kernel_rfl)) (fun _ _ _ h => h) (Or.inl ⟨by rfl, ?_⟩) ?_ ?_
              rotate_left
              · intro w'
                go_simp
                with_reducible rfl
              rotate_left
              · simp only [Act.put, List.setIfInBounds_toArray, List.set_cons_zero, List.set_cons_succ, iY, jB]
                rfl
              refine yI (i := 1) (N := some 13) (v := ?_) (a' := ?_) #[true, true, false, false, false, false, false, false, false, false, false, false, false, false, false, false, false, false, false] rfl rfl (mY HT_.out HW_.out (by kernel_rfl)) (fun _ _ _ h => h) (Or.inl ⟨by rfl, ?_⟩) hHeld ?_ ?_
              rotate_left
              · rintro w' ⟨s0, s1⟩
                go_simp
                with_reducible rfl
              rotate_left
              · simp only [Act.put, List.setIfInBounds_toArray, List.set_cons_zero, List.set_cons_succ, iY, jB]
                rfl
              refine one_ (i := 2) (N := some 14) #[true, true, true, false, false, false, false, false, false, false, false, false, false, false, false, false, false, false, false] rfl rfl (mJ HT_.out (by kernel_rfl)) (by decide) (fun K hK => ?_)
              refine rE Tryd.func62 (by kernel_rfl) rfl #[.slice A107_1 ((iP l0 x7_1).f1).length c107_1] (by rfl) rfl rfl (by (try simp only [List.map_toArray, List.map_cons, List.map_nil]); first | done | rfl | (simp only [List.length_drop, List.length_take]; rfl)) ?_
              with_reducible refine (code_batch.calls _ _ ((iP l0 x7_1).f1) false _ ?side1 ?side2 A5.out).mono ?_
              (case side1 => repeat (first | exact (Kd.C_below HR107_1.out HB.out) | (with_reducible refine Kd.C_alloc ?_ _) | (with_reducible refine Kd.C_drewN ?_ _) | (with_reducible refine Kd.C_drew ?_)))
              (case side2 => exact HC107_1.out)
              rintro e w31 ⟨rfl, hb⟩
              refine ⟨_, rfl, ?_⟩
              have n0_ := iC.mk (jF (g := gb108) (o := .cells #[.int .u32 ((iP l0 x7_1).f0), .slice A107_1 ((iP l0 x7_1).f1).length c107_1] 86 (0, 0)) (bk_ BK108.out) hb)
              have n1_ := iC.mk (iI (by repeat (first | (with_reducible first | exact HB.out | apply iF | apply iG | apply iH | refine iJ ?_ GE108.out) | exact HB.out)) hb)
              clear BK108
              clear HB
              have BK108 := n0_
              have HB := n1_
              clear n0_ n1_
              (try clear hb)
              (try clear hb2)
              (try clear hk)
              (try clear hi)
              refine hK.out _ _ ⟨(iE BK108.out 0).trans rfl, (iE BK108.out 1).trans rfl⟩ (fun hHeld => ?_)
              clear hK K
              refine lK (a' := ?_) ?_ ?_
              rotate_left
              · show Act.put _ (some 14) _ = _
                simp only [Act.put, List.setIfInBounds_toArray, List.set_cons_zero, List.set_cons_succ, iY, jB]
                rfl
              refine jP (i := 3) (N := some 15) (v := ?_) (a' := ?_) #[true, true, true, true, false, false, false, false, false, false, false, false, false, false, false, false, false, false, false] rfl rfl (jC HT_.out (by kernel_rfl)) (fun _ _ _ h => h) (Or.inl ⟨by rfl, ?_⟩) ?_ ?_
              rotate_left
              · intro w'
                go_simp
                with_reducible rfl
              rotate_left
              · simp only [Act.put, List.setIfInBounds_toArray, List.set_cons_zero, List.set_cons_succ, iY, jB]
                rfl
              refine jP (i := 4) (N := some 16) (v := ?_) (a' := ?_) #[true, true, true, true, true, false, false, false, false, false, false, false, false, false, false, false, false, false, false] rfl rfl (jC HT_.out (by kernel_rfl)) (fun _ _ _ h => h) (Or.inl ⟨by rfl, ?_⟩) ?_ ?_
              rotate_left
              · intro w'
                go_simp
                with_reducible rfl
              rotate_left
              · simp only [Act.put, List.setIfInBounds_toArray, List.set_cons_zero, List.set_cons_succ, iY, jB]
                rfl
              refine jP (i := 5) (N := some 17) (v := undef) (a' := ?_) #[true, true, true, true, true, true, false, false, false, false, false, false, false, false, false, false, false, false, false] rfl rfl (jC HT_.out (by kernel_rfl)) (fun _ _ _ h => h) (Or.inr ⟨by rfl, rfl⟩) ?_ ?_
              rotate_left
              · simp only [Act.put, List.setIfInBounds_toArray, List.set_cons_zero, List.set_cons_succ, iY, jB]
                rfl
              refine jP (i := 6) (N := some 18) (v := undef) (a' := ?_) #[true, true, true, true, true, true, true, false, false, false, false, false, false, false, false, false, false, false, false] rfl rfl (jC HT_.out (by kernel_rfl)) (fun _ _ _ h => h) (Or.inr ⟨by rfl, rfl⟩) ?_ ?_
              rotate_left
              · simp only [Act.put, List.setIfInBounds_toArray, List.set_cons_zero, List.set_cons_succ, iY, jB]
                rfl
              refine jP (i := 7) (N := some 19) (v := undef) (a' := ?_) #[true, true, true, true, true, true, true, true, false, false, false, false, false, false, false, false, false, false, false] rfl rfl (jC HT_.out (by kernel_rfl)) (fun _ _ _ h => h) (Or.inr ⟨by rfl, rfl⟩) ?_ ?_
              rotate_left
              · simp only [Act.put, List.setIfInBounds_toArray, List.set_cons_zero, List.set_cons_succ, iY, jB]
                rfl
              refine jP (i := 8) (N := some 20) (v := undef) (a' := ?_) #[true, true, true, true, true, true, true, true, true, false, false, false, false, false, false, false, false, false, false] rfl rfl (jC HT_.out (by kernel_rfl)) (fun _ _ _ h => h) (Or.inr ⟨by rfl, rfl⟩) ?_ ?_
              rotate_left
              · simp only [Act.put, List.setIfInBounds_toArray, List.set_cons_zero, List.set_cons_succ, iY, jB]
                rfl
              refine jP (i := 9) (N := some 21) (v := undef) (a' := ?_) #[true, true, true, true, true, true, true, true, true, true, false, false, false, false, false, false, false, false, false] rfl rfl (jC HT_.out (by kernel_rfl)) (fun _ _ _ h => h) (Or.inr ⟨by rfl, rfl⟩) ?_ ?_
              rotate_left
              · simp only [Act.put, List.setIfInBounds_toArray, List.set_cons_zero, List.set_cons_succ, iY, jB]
                rfl
              refine jP (i := 10) (N := some 22) (v := undef) (a' := ?_) #[true, true, true, true, true, true, true, true, true, true, true, false, false, false, false, false, false, false, false] rfl rfl (jC HT_.out (by kernel_rfl)) (fun _ _ _ h => h) (Or.inr ⟨by rfl, rfl⟩) ?_ ?_
              rotate_left
              · simp only [Act.put, List.setIfInBounds_toArray, List.set_cons_zero, List.set_cons_succ, iY, jB]
                rfl
              refine jP (i := 11) (N := some 23) (v := undef) (a' := ?_) #[true, true, true, true, true, true, true, true, true, true, true, true, false, false, false, false, false, false, false] rfl rfl (jC HT_.out (by kernel_rfl)) (fun _ _ _ h => h) (Or.inr ⟨by rfl, rfl⟩) ?_ ?_
              rotate_left
              · simp only [Act.put, List.setIfInBounds_toArray, List.set_cons_zero, List.set_cons_succ, iY, jB]
                rfl
              refine jP (i := 12) (N := some 24) (v := undef) (a' := ?_) #[true, true, true, true, true, true, true, true, true, true, true, true, true, false, false, false, false, false, false] rfl rfl (jC HT_.out (by kernel_rfl)) (fun _ _ _ h => h) (Or.inr ⟨by rfl, rfl⟩) ?_ ?_
              rotate_left
              · simp only [Act.put, List.setIfInBounds_toArray, List.set_cons_zero, List.set_cons_succ, iY, jB]
                rfl
              refine jP (i := 13) (N := some 25) (v := undef) (a' := ?_) #[true, true, true, true, true, true, true, true, true, true, true, true, true, true, false, false, false, false, false] rfl rfl (jC HT_.out (by kernel_rfl)) (fun _ _ _ h => h) (Or.inr ⟨by rfl, rfl⟩) ?_ ?_
              rotate_left
              · simp only [Act.put, List.setIfInBounds_toArray, List.set_cons_zero, List.set_cons_succ, iY, jB]
                rfl
              refine jP (i := 14) (N := some 26) (v := undef) (a' := ?_) #[true, true, true, true, true, true, true, true, true, true, true, true, true, true, true, false, false, false, false] rfl rfl (jC HT_.out (by kernel_rfl)) (fun _ _ _ h => h) (Or.inr ⟨by rfl, rfl⟩) ?_ ?_
              rotate_left
              · simp only [Act.put, List.setIfInBounds_toArray, List.set_cons_zero, List.set_cons_succ, iY, jB]
                rfl
              refine jP (i := 15) (N := some 27) (v := undef) (a' := ?_) #[true, true, true, true, true, true, true, true, true, true, true, true, true, true, true, true, false, false, false] rfl rfl (jC HT_.out (by kernel_rfl)) (fun _ _ _ h => h) (Or.inr ⟨by rfl, rfl⟩) ?_ ?_
              rotate_left
              · simp only [Act.put, List.setIfInBounds_toArray, List.set_cons_zero, List.set_cons_succ, iY, jB]
                rfl
              refine jP (i := 16) (N := some 28) (v := undef) (a' := ?_) #[true, true, true, true, true, true, true, true, true, true, true, true, true, true, true, true, true, false, false] rfl rfl (jC HT_.out (by kernel_rfl)) (fun _ _ _ h => h) (Or.inr ⟨by rfl, rfl⟩) ?_ ?_
              rotate_left
              · simp only [Act.put, List.setIfInBounds_toArray, List.set_cons_zero, List.set_cons_succ, iY, jB]
                rfl
              refine jP (i := 17) (N := some 29) (v := undef) (a' := ?_) #[true, true, true, true, true, true, true, true, true, true, true, true, true, true, true, true, true, true, false] rfl rfl (jC HT_.out (by kernel_rfl)) (fun _ _ _ h => h) (Or.inr ⟨by rfl, rfl⟩) ?_ ?_
              rotate_left
              · simp only [Act.put, List.setIfInBounds_toArray, List.set_cons_zero, List.set_cons_succ, iY, jB]
                rfl
              refine jP (i := 18) (N := some 30) (v := ?_) (a' := ?_) #[true, true, true, true, true, true, true, true, true, true, true, true, true, true, true, true, true, true, true] rfl rfl (jC HT_.out (by kernel_rfl)) (fun _ _ _ h => h) (Or.inl ⟨by rfl, ?_⟩) ?_ ?_
              rotate_left
              · intro w'
                go_simp
                with_reducible rfl
              rotate_left
              · simp only [Act.put, List.setIfInBounds_toArray, List.set_cons_zero, List.set_cons_succ, iY, jB]
                rfl
              refine I9 (qB HT_.out (by kernel_rfl)) ?_
              try go_wp2
              go_ret
              exact ⟨by first | rfl | (simp [iM, iO] <;> rfl) | (simp [*, iM, iO] <;> rfl), by repeat (first | (with_reducible first | exact HB.out | apply iF | apply iG | apply iH | refine iJ ?_ GE108.out) | exact HB.out)⟩
          · rw [if_neg c4] at H
            exact absurd H (by simp)
        · rw [if_neg c3] at H
          exact absurd H (by simp)
      · rw [if_neg c2] at H
        have c2b0 : decide (x7_1 < (l0.length : Int)) = false := decide_eq_false c2
        clear c2
        obtain rfl := Option.some.inj H
        go_wp2
        go_ret
        exact ⟨by first | rfl | (simp [iM, iO] <;> rfl) | (simp [*, iM, iO] <;> rfl), hb_⟩
end Go.Proofs.YtgfkgppomaapiaaDoor.K
end

section
namespace Go.Proofs.YtgfkgppomaapiaaDoor.K
open Go.RowKit Go.Proofs.YtgfkgppomaapiaaDoorW.PrintWords Go.Proofs.YtgfkgppomaapiaaDoorW.PrintLast Go.Proofs.YtgfkgppomaapiaaDoorW.PrintMore
def code_plain.f (a0_0 : Int) (a0_1 : Int) (a0_2 : Int) (l0_3 : List Int) (l0_4 : List (S139)) (a0_5 : Int) (l0_6 : List (S98)) (a0_7 : Int) (a0_8 : Int) (l0_9 : List (S86)) : Option (Bool) := if a0_0 = 0 then (if a0_1 = 0 then (if a0_2 = 0 then (if (l0_3.length : Int) = 0 then (if (l0_4.length : Int) = 0 then (if a0_5 = 0 then (if (l0_6.length : Int) = 0 then (if a0_7 = 0 then (if a0_8 = 0 then (some ((l0_9.length : Int) == 0)) else (some false)) else (some false)) else (some false)) else (some false)) else (some false)) else (some false)) else (some false)) else (some false)) else (some false)
set_option maxHeartbeats 8000000 in
set_option maxRecDepth 100000 in
theorem code_plain.calls (a0_0 : Int) (a0_1 : Int) (a0_2 : Int) (A0_3 : Option Addr) (c0_3 : Nat) (l0_3 : List Int) (A0_4 : Option Addr) (c0_4 : Nat) (l0_4 : List (S139)) (a0_5 : Int) (A0_6 : Option Addr) (c0_6 : Nat) (l0_6 : List (S98)) (a0_7 : Int) (a0_8 : Int) (A0_9 : Option Addr) (c0_9 : Nat) (l0_9 : List (S86)) (r : Bool) (w : World) (hr0_3 : Kd.C (Kd.int .i64) w A0_3 l0_3.length l0_3) (hc0_3 : l0_3.length ≤ c0_3) (hr0_4 : Kd.C k139 w A0_4 l0_4.length l0_4) (hc0_4 : l0_4.length ≤ c0_4) (hr0_6 : Kd.C k98 w A0_6 l0_6.length l0_6) (hc0_6 : l0_6.length ≤ c0_6) (hr0_9 : Kd.C k86 w A0_9 l0_9.length l0_9) (hc0_9 : l0_9.length ≤ c0_9) (h : code_plain.f a0_0 a0_1 a0_2 l0_3 l0_4 a0_5 l0_6 a0_7 a0_8 l0_9 = some r) :
    Calls Tryd.prog 67 #[.agg #[.int .u8 a0_0, .int .u32 a0_1, .int .u32 a0_2, .slice A0_3 l0_3.length c0_3, .slice A0_4 l0_4.length c0_4, .int .u32 a0_5, .slice A0_6 l0_6.length c0_6, .int .i64 a0_7, .int .i64 a0_8, .slice A0_9 l0_9.length c0_9]] w fun e w' => e = .returned (.bool r) ∧ Below w.heap.size w w' := by
  have hu30 := Tryd.underlying30
  have HR0_3 := iC.mk hr0_3
  have HC0_3 := iC.mk hc0_3
  clear hr0_3 hc0_3
  have HR0_4 := iC.mk hr0_4
  have HC0_4 := iC.mk hc0_4
  clear hr0_4 hc0_4
  have HR0_6 := iC.mk hr0_6
  have HC0_6 := iC.mk hc0_6
  clear hr0_6 hc0_6
  have HR0_9 := iC.mk hr0_9
  have HC0_9 := iC.mk hc0_9
  clear hr0_9 hc0_9
  have HB := iC.mk (Below.refl w.heap.size w)
  have H : (if a0_0 = 0 then (if a0_1 = 0 then (if a0_2 = 0 then (if (l0_3.length : Int) = 0 then (if (l0_4.length : Int) = 0 then (if a0_5 = 0 then (if (l0_6.length : Int) = 0 then (if a0_7 = 0 then (if a0_8 = 0 then (some ((l0_9.length : Int) == 0)) else (some false)) else (some false)) else (some false)) else (some false)) else (some false)) else (some false)) else (some false)) else (some false)) else (some false)) = some r := h
  clear h
  by_cases c2 : a0_0 = 0
  · rw [if_pos c2] at H
    have c2b0 : (a0_0 == 0) = true := beq_iff_eq.mpr c2
    have c2b1 : (a0_0 != 0) = false := bne_eq_false_iff_eq.mpr c2
    clear c2
    by_cases c3 : a0_1 = 0
    · rw [if_pos c3] at H
      have c3b0 : (a0_1 == 0) = true := beq_iff_eq.mpr c3
      have c3b1 : (a0_1 != 0) = false := bne_eq_false_iff_eq.mpr c3
      clear c3
      by_cases c4 : a0_2 = 0
      · rw [if_pos c4] at H
        have c4b0 : (a0_2 == 0) = true := beq_iff_eq.mpr c4
        have c4b1 : (a0_2 != 0) = false := bne_eq_false_iff_eq.mpr c4
        clear c4
        by_cases c5 : (l0_3.length : Int) = 0
        · rw [if_pos c5] at H
          have c5b0 : ((l0_3.length : Int) == 0) = true := beq_iff_eq.mpr c5
          have c5b1 : ((l0_3.length : Int) != 0) = false := bne_eq_false_iff_eq.mpr c5
          clear c5
          by_cases c6 : (l0_4.length : Int) = 0
          · rw [if_pos c6] at H
            have c6b0 : ((l0_4.length : Int) == 0) = true := beq_iff_eq.mpr c6
            have c6b1 : ((l0_4.length : Int) != 0) = false := bne_eq_false_iff_eq.mpr c6
            clear c6
            by_cases c7 : a0_5 = 0
            · rw [if_pos c7] at H
              have c7b0 : (a0_5 == 0) = true := beq_iff_eq.mpr c7
              have c7b1 : (a0_5 != 0) = false := bne_eq_false_iff_eq.mpr c7
              clear c7
              by_cases c8 : (l0_6.length : Int) = 0
              · rw [if_pos c8] at H
                have c8b0 : ((l0_6.length : Int) == 0) = true := beq_iff_eq.mpr c8
                have c8b1 : ((l0_6.length : Int) != 0) = false := bne_eq_false_iff_eq.mpr c8
                clear c8
                by_cases c9 : a0_7 = 0
                · rw [if_pos c9] at H
                  have c9b0 : (a0_7 == 0) = true := beq_iff_eq.mpr c9
                  have c9b1 : (a0_7 != 0) = false := bne_eq_false_iff_eq.mpr c9
                  clear c9
                  by_cases c10 : a0_8 = 0
                  · rw [if_pos c10] at H
                    have c10b0 : (a0_8 == 0) = true := beq_iff_eq.mpr c10
                    have c10b1 : (a0_8 != 0) = false := bne_eq_false_iff_eq.mpr c10
                    clear c10
                    obtain rfl := Option.some.inj H
                    go_enter Tryd.func67, Tryd.ntmps67
                    go_wp2_with (first | ((with_reducible refine jS (N := 1) rfl ?_); (try (refine jX (by rfl) ?_; dsimp only)); refine jI ?hg (N := 1) ?hd (cs := #[.int .u8 a0_0, .int .u32 a0_1, .int .u32 a0_2, .slice A0_3 l0_3.length c0_3, .slice A0_4 l0_4.length c0_4, .int .u32 a0_5, .slice A0_6 l0_6.length c0_6, .int .i64 a0_7, .int .i64 a0_8, .slice A0_9 l0_9.length c0_9]) (t := 30) ?hr ?_; (case hd => rfl); (case hg => rfl); (case hr => first | (go_simp; done) | (go_simp; rfl)); intro gb111 hg w11 hbox hb; have n0_ := iC.mk (iI hb_ hb); have n1_ := iC.mk (hbox); have n2_ := iC.mk ((by rw [hg]; exact (iQ hb_) : w.heap.size ≤ gb111)); have n3_ := iC.mk ((by rw [hg]; exact (iQ hb_) : w.heap.size ≤ gb111)); clear HB; have HB := n0_; have BK111 := n1_; have GW111 := n2_; have GE111 := n3_; clear n0_ n1_ n2_ n3_; clear hb hbox hg; have hcz12_0 : w11.cell? ⟨gb111, 0, none⟩ = some (.int .u8 a0_0) := (iE BK111.out 0).trans rfl; have hcz12_1 : w11.cell? ⟨gb111, 1, none⟩ = some (.int .u32 a0_1) := (iE BK111.out 1).trans rfl; have hcz12_2 : w11.cell? ⟨gb111, 2, none⟩ = some (.int .u32 a0_2) := (iE BK111.out 2).trans rfl; have hcz12_3 : w11.cell? ⟨gb111, 3, none⟩ = some (.slice A0_3 l0_3.length c0_3) := (iE BK111.out 3).trans rfl; have hcz12_4 : w11.cell? ⟨gb111, 4, none⟩ = some (.slice A0_4 l0_4.length c0_4) := (iE BK111.out 4).trans rfl; have hcz12_5 : w11.cell? ⟨gb111, 5, none⟩ = some (.int .u32 a0_5) := (iE BK111.out 5).trans rfl; have hcz12_6 : w11.cell? ⟨gb111, 6, none⟩ = some (.slice A0_6 l0_6.length c0_6) := (iE BK111.out 6).trans rfl; have hcz12_7 : w11.cell? ⟨gb111, 7, none⟩ = some (.int .i64 a0_7) := (iE BK111.out 7).trans rfl; have hcz12_8 : w11.cell? ⟨gb111, 8, none⟩ = some (.int .i64 a0_8) := (iE BK111.out 8).trans rfl; have hcz12_9 : w11.cell? ⟨gb111, 9, none⟩ = some (.slice A0_9 l0_9.length c0_9) := (iE BK111.out 9).trans rfl; have hfz12_0 := iD BK111.out 0; have hfz12_1 := iD BK111.out 1; have hfz12_2 := iD BK111.out 2; have hfz12_3 := iD BK111.out 3; have hfz12_4 := iD BK111.out 4; have hfz12_5 := iD BK111.out 5; have hfz12_6 := iD BK111.out 6; have hfz12_7 := iD BK111.out 7; have hfz12_8 := iD BK111.out 8; have hfz12_9 := iD BK111.out 9))
                    go_ret
                    exact ⟨by first | rfl | (simp [iM, iO] <;> rfl) | (simp [*, iM, iO] <;> rfl), by repeat (first | (with_reducible first | exact HB.out | apply iF | apply iG | apply iH | refine iJ ?_ GE111.out) | exact HB.out)⟩
                  · rw [if_neg c10] at H
                    have c10b0 : (a0_8 == 0) = false := beq_eq_false_iff_ne.mpr c10
                    have c10b1 : (a0_8 != 0) = true := bne_iff_ne.mpr c10
                    obtain rfl := Option.some.inj H
                    go_enter Tryd.func67, Tryd.ntmps67
                    go_wp2_with (first | ((with_reducible refine jS (N := 1) rfl ?_); (try (refine jX (by rfl) ?_; dsimp only)); refine jI ?hg (N := 1) ?hd (cs := #[.int .u8 a0_0, .int .u32 a0_1, .int .u32 a0_2, .slice A0_3 l0_3.length c0_3, .slice A0_4 l0_4.length c0_4, .int .u32 a0_5, .slice A0_6 l0_6.length c0_6, .int .i64 a0_7, .int .i64 a0_8, .slice A0_9 l0_9.length c0_9]) (t := 30) ?hr ?_; (case hd => rfl); (case hg => rfl); (case hr => first | (go_simp; done) | (go_simp; rfl)); intro gb111 hg w13 hbox hb; have n0_ := iC.mk (iI hb_ hb); have n1_ := iC.mk (hbox); have n2_ := iC.mk ((by rw [hg]; exact (iQ hb_) : w.heap.size ≤ gb111)); have n3_ := iC.mk ((by rw [hg]; exact (iQ hb_) : w.heap.size ≤ gb111)); clear HB; have HB := n0_; have BK111 := n1_; have GW111 := n2_; have GE111 := n3_; clear n0_ n1_ n2_ n3_; clear hb hbox hg; have hcz14_0 : w13.cell? ⟨gb111, 0, none⟩ = some (.int .u8 a0_0) := (iE BK111.out 0).trans rfl; have hcz14_1 : w13.cell? ⟨gb111, 1, none⟩ = some (.int .u32 a0_1) := (iE BK111.out 1).trans rfl; have hcz14_2 : w13.cell? ⟨gb111, 2, none⟩ = some (.int .u32 a0_2) := (iE BK111.out 2).trans rfl; have hcz14_3 : w13.cell? ⟨gb111, 3, none⟩ = some (.slice A0_3 l0_3.length c0_3) := (iE BK111.out 3).trans rfl; have hcz14_4 : w13.cell? ⟨gb111, 4, none⟩ = some (.slice A0_4 l0_4.length c0_4) := (iE BK111.out 4).trans rfl; have hcz14_5 : w13.cell? ⟨gb111, 5, none⟩ = some (.int .u32 a0_5) := (iE BK111.out 5).trans rfl; have hcz14_6 : w13.cell? ⟨gb111, 6, none⟩ = some (.slice A0_6 l0_6.length c0_6) := (iE BK111.out 6).trans rfl; have hcz14_7 : w13.cell? ⟨gb111, 7, none⟩ = some (.int .i64 a0_7) := (iE BK111.out 7).trans rfl; have hcz14_8 : w13.cell? ⟨gb111, 8, none⟩ = some (.int .i64 a0_8) := (iE BK111.out 8).trans rfl; have hcz14_9 : w13.cell? ⟨gb111, 9, none⟩ = some (.slice A0_9 l0_9.length c0_9) := (iE BK111.out 9).trans rfl; have hfz14_0 := iD BK111.out 0; have hfz14_1 := iD BK111.out 1; have hfz14_2 := iD BK111.out 2; have hfz14_3 := iD BK111.out 3; have hfz14_4 := iD BK111.out 4; have hfz14_5 := iD BK111.out 5; have hfz14_6 := iD BK111.out 6; have hfz14_7 := iD BK111.out 7; have hfz14_8 := iD BK111.out 8; have hfz14_9 := iD BK111.out 9))
                    go_ret
                    exact ⟨by first | rfl | (simp [iM, iO] <;> rfl) | (simp [*, iM, iO] <;> rfl), by repeat (first | (with_reducible first | exact HB.out | apply iF | apply iG | apply iH | refine iJ ?_ GE111.out) | exact HB.out)⟩
                · rw [if_neg c9] at H
                  have c9b0 : (a0_7 == 0) = false := beq_eq_false_iff_ne.mpr c9
                  have c9b1 : (a0_7 != 0) = true := bne_iff_ne.mpr c9
                  obtain rfl := Option.some.inj H
                  go_enter Tryd.func67, Tryd.ntmps67
                  go_wp2_with (first | ((with_reducible refine jS (N := 1) rfl ?_); (try (refine jX (by rfl) ?_; dsimp only)); refine jI ?hg (N := 1) ?hd (cs := #[.int .u8 a0_0, .int .u32 a0_1, .int .u32 a0_2, .slice A0_3 l0_3.length c0_3, .slice A0_4 l0_4.length c0_4, .int .u32 a0_5, .slice A0_6 l0_6.length c0_6, .int .i64 a0_7, .int .i64 a0_8, .slice A0_9 l0_9.length c0_9]) (t := 30) ?hr ?_; (case hd => rfl); (case hg => rfl); (case hr => first | (go_simp; done) | (go_simp; rfl)); intro gb111 hg w15 hbox hb; have n0_ := iC.mk (iI hb_ hb); have n1_ := iC.mk (hbox); have n2_ := iC.mk ((by rw [hg]; exact (iQ hb_) : w.heap.size ≤ gb111)); have n3_ := iC.mk ((by rw [hg]; exact (iQ hb_) : w.heap.size ≤ gb111)); clear HB; have HB := n0_; have BK111 := n1_; have GW111 := n2_; have GE111 := n3_; clear n0_ n1_ n2_ n3_; clear hb hbox hg; have hcz16_0 : w15.cell? ⟨gb111, 0, none⟩ = some (.int .u8 a0_0) := (iE BK111.out 0).trans rfl; have hcz16_1 : w15.cell? ⟨gb111, 1, none⟩ = some (.int .u32 a0_1) := (iE BK111.out 1).trans rfl; have hcz16_2 : w15.cell? ⟨gb111, 2, none⟩ = some (.int .u32 a0_2) := (iE BK111.out 2).trans rfl; have hcz16_3 : w15.cell? ⟨gb111, 3, none⟩ = some (.slice A0_3 l0_3.length c0_3) := (iE BK111.out 3).trans rfl; have hcz16_4 : w15.cell? ⟨gb111, 4, none⟩ = some (.slice A0_4 l0_4.length c0_4) := (iE BK111.out 4).trans rfl; have hcz16_5 : w15.cell? ⟨gb111, 5, none⟩ = some (.int .u32 a0_5) := (iE BK111.out 5).trans rfl; have hcz16_6 : w15.cell? ⟨gb111, 6, none⟩ = some (.slice A0_6 l0_6.length c0_6) := (iE BK111.out 6).trans rfl; have hcz16_7 : w15.cell? ⟨gb111, 7, none⟩ = some (.int .i64 a0_7) := (iE BK111.out 7).trans rfl; have hcz16_8 : w15.cell? ⟨gb111, 8, none⟩ = some (.int .i64 a0_8) := (iE BK111.out 8).trans rfl; have hcz16_9 : w15.cell? ⟨gb111, 9, none⟩ = some (.slice A0_9 l0_9.length c0_9) := (iE BK111.out 9).trans rfl; have hfz16_0 := iD BK111.out 0; have hfz16_1 := iD BK111.out 1; have hfz16_2 := iD BK111.out 2; have hfz16_3 := iD BK111.out 3; have hfz16_4 := iD BK111.out 4; have hfz16_5 := iD BK111.out 5; have hfz16_6 := iD BK111.out 6; have hfz16_7 := iD BK111.out 7; have hfz16_8 := iD BK111.out 8; have hfz16_9 := iD BK111.out 9))
                  go_ret
                  exact ⟨by first | rfl | (simp [iM, iO] <;> rfl) | (simp [*, iM, iO] <;> rfl), by repeat (first | (with_reducible first | exact HB.out | apply iF | apply iG | apply iH | refine iJ ?_ GE111.out) | exact HB.out)⟩
              · rw [if_neg c8] at H
                have c8b0 : ((l0_6.length : Int) == 0) = false := beq_eq_false_iff_ne.mpr c8
                have c8b1 : ((l0_6.length : Int) != 0) = true := bne_iff_ne.mpr c8
                have c8b2 : ¬ (l0_6 = []) := fun h_ => c8 (by rw [h_]; rfl)
                obtain rfl := Option.some.inj H
                go_enter Tryd.func67, Tryd.ntmps67
                go_wp2_with (first | ((with_reducible refine jS (N := 1) rfl ?_); (try (refine jX (by rfl) ?_; dsimp only)); refine jI ?hg (N := 1) ?hd (cs := #[.int .u8 a0_0, .int .u32 a0_1, .int .u32 a0_2, .slice A0_3 l0_3.length c0_3, .slice A0_4 l0_4.length c0_4, .int .u32 a0_5, .slice A0_6 l0_6.length c0_6, .int .i64 a0_7, .int .i64 a0_8, .slice A0_9 l0_9.length c0_9]) (t := 30) ?hr ?_; (case hd => rfl); (case hg => rfl); (case hr => first | (go_simp; done) | (go_simp; rfl)); intro gb111 hg w17 hbox hb; have n0_ := iC.mk (iI hb_ hb); have n1_ := iC.mk (hbox); have n2_ := iC.mk ((by rw [hg]; exact (iQ hb_) : w.heap.size ≤ gb111)); have n3_ := iC.mk ((by rw [hg]; exact (iQ hb_) : w.heap.size ≤ gb111)); clear HB; have HB := n0_; have BK111 := n1_; have GW111 := n2_; have GE111 := n3_; clear n0_ n1_ n2_ n3_; clear hb hbox hg; have hcz18_0 : w17.cell? ⟨gb111, 0, none⟩ = some (.int .u8 a0_0) := (iE BK111.out 0).trans rfl; have hcz18_1 : w17.cell? ⟨gb111, 1, none⟩ = some (.int .u32 a0_1) := (iE BK111.out 1).trans rfl; have hcz18_2 : w17.cell? ⟨gb111, 2, none⟩ = some (.int .u32 a0_2) := (iE BK111.out 2).trans rfl; have hcz18_3 : w17.cell? ⟨gb111, 3, none⟩ = some (.slice A0_3 l0_3.length c0_3) := (iE BK111.out 3).trans rfl; have hcz18_4 : w17.cell? ⟨gb111, 4, none⟩ = some (.slice A0_4 l0_4.length c0_4) := (iE BK111.out 4).trans rfl; have hcz18_5 : w17.cell? ⟨gb111, 5, none⟩ = some (.int .u32 a0_5) := (iE BK111.out 5).trans rfl; have hcz18_6 : w17.cell? ⟨gb111, 6, none⟩ = some (.slice A0_6 l0_6.length c0_6) := (iE BK111.out 6).trans rfl; have hcz18_7 : w17.cell? ⟨gb111, 7, none⟩ = some (.int .i64 a0_7) := (iE BK111.out 7).trans rfl; have hcz18_8 : w17.cell? ⟨gb111, 8, none⟩ = some (.int .i64 a0_8) := (iE BK111.out 8).trans rfl; have hcz18_9 : w17.cell? ⟨gb111, 9, none⟩ = some (.slice A0_9 l0_9.length c0_9) := (iE BK111.out 9).trans rfl; have hfz18_0 := iD BK111.out 0; have hfz18_1 := iD BK111.out 1; have hfz18_2 := iD BK111.out 2; have hfz18_3 := iD BK111.out 3; have hfz18_4 := iD BK111.out 4; have hfz18_5 := iD BK111.out 5; have hfz18_6 := iD BK111.out 6; have hfz18_7 := iD BK111.out 7; have hfz18_8 := iD BK111.out 8; have hfz18_9 := iD BK111.out 9))
                go_ret
                exact ⟨by first | rfl | (simp [iM, iO] <;> rfl) | (simp [*, iM, iO] <;> rfl), by repeat (first | (with_reducible first | exact HB.out | apply iF | apply iG | apply iH | refine iJ ?_ GE111.out) | exact HB.out)⟩
            · rw [if_neg c7] at H
              have c7b0 : (a0_5 == 0) = false := beq_eq_false_iff_ne.mpr c7
              have c7b1 : (a0_5 != 0) = true := bne_iff_ne.mpr c7
              obtain rfl := Option.some.inj H
              go_enter Tryd.func67, Tryd.ntmps67
              go_wp2_with (first | ((with_reducible refine jS (N := 1) rfl ?_); (try (refine jX (by rfl) ?_; dsimp only)); refine jI ?hg (N := 1) ?hd (cs := #[.int .u8 a0_0, .int .u32 a0_1, .int .u32 a0_2, .slice A0_3 l0_3.length c0_3, .slice A0_4 l0_4.length c0_4, .int .u32 a0_5, .slice A0_6 l0_6.length c0_6, .int .i64 a0_7, .int .i64 a0_8, .slice A0_9 l0_9.length c0_9]) (t := 30) ?hr ?_; (case hd => rfl); (case hg => rfl); (case hr => first | (go_simp; done) | (go_simp; rfl)); intro gb111 hg w19 hbox hb; have n0_ := iC.mk (iI hb_ hb); have n1_ := iC.mk (hbox); have n2_ := iC.mk ((by rw [hg]; exact (iQ hb_) : w.heap.size ≤ gb111)); have n3_ := iC.mk ((by rw [hg]; exact (iQ hb_) : w.heap.size ≤ gb111)); clear HB; have HB := n0_; have BK111 := n1_; have GW111 := n2_; have GE111 := n3_; clear n0_ n1_ n2_ n3_; clear hb hbox hg; have hcz20_0 : w19.cell? ⟨gb111, 0, none⟩ = some (.int .u8 a0_0) := (iE BK111.out 0).trans rfl; have hcz20_1 : w19.cell? ⟨gb111, 1, none⟩ = some (.int .u32 a0_1) := (iE BK111.out 1).trans rfl; have hcz20_2 : w19.cell? ⟨gb111, 2, none⟩ = some (.int .u32 a0_2) := (iE BK111.out 2).trans rfl; have hcz20_3 : w19.cell? ⟨gb111, 3, none⟩ = some (.slice A0_3 l0_3.length c0_3) := (iE BK111.out 3).trans rfl; have hcz20_4 : w19.cell? ⟨gb111, 4, none⟩ = some (.slice A0_4 l0_4.length c0_4) := (iE BK111.out 4).trans rfl; have hcz20_5 : w19.cell? ⟨gb111, 5, none⟩ = some (.int .u32 a0_5) := (iE BK111.out 5).trans rfl; have hcz20_6 : w19.cell? ⟨gb111, 6, none⟩ = some (.slice A0_6 l0_6.length c0_6) := (iE BK111.out 6).trans rfl; have hcz20_7 : w19.cell? ⟨gb111, 7, none⟩ = some (.int .i64 a0_7) := (iE BK111.out 7).trans rfl; have hcz20_8 : w19.cell? ⟨gb111, 8, none⟩ = some (.int .i64 a0_8) := (iE BK111.out 8).trans rfl; have hcz20_9 : w19.cell? ⟨gb111, 9, none⟩ = some (.slice A0_9 l0_9.length c0_9) := (iE BK111.out 9).trans rfl; have hfz20_0 := iD BK111.out 0; have hfz20_1 := iD BK111.out 1; have hfz20_2 := iD BK111.out 2; have hfz20_3 := iD BK111.out 3; have hfz20_4 := iD BK111.out 4; have hfz20_5 := iD BK111.out 5; have hfz20_6 := iD BK111.out 6; have hfz20_7 := iD BK111.out 7; have hfz20_8 := iD BK111.out 8; have hfz20_9 := iD BK111.out 9))
              go_ret
              exact ⟨by first | rfl | (simp [iM, iO] <;> rfl) | (simp [*, iM, iO] <;> rfl), by repeat (first | (with_reducible first | exact HB.out | apply iF | apply iG | apply iH | refine iJ ?_ GE111.out) | exact HB.out)⟩
          · rw [if_neg c6] at H
            have c6b0 : ((l0_4.length : Int) == 0) = false := beq_eq_false_iff_ne.mpr c6
            have c6b1 : ((l0_4.length : Int) != 0) = true := bne_iff_ne.mpr c6
            have c6b2 : ¬ (l0_4 = []) := fun h_ => c6 (by rw [h_]; rfl)
            obtain rfl := Option.some.inj H
            go_enter Tryd.func67, Tryd.ntmps67
            go_wp2_with (first | ((with_reducible refine jS (N := 1) rfl ?_); (try (refine jX (by rfl) ?_; dsimp only)); refine jI ?hg (N := 1) ?hd (cs := #[.int .u8 a0_0, .int .u32 a0_1, .int .u32 a0_2, .slice A0_3 l0_3.length c0_3, .slice A0_4 l0_4.length c0_4, .int .u32 a0_5, .slice A0_6 l0_6.length c0_6, .int .i64 a0_7, .int .i64 a0_8, .slice A0_9 l0_9.length c0_9]) (t := 30) ?hr ?_; (case hd => rfl); (case hg => rfl); (case hr => first | (go_simp; done) | (go_simp; rfl)); intro gb111 hg w21 hbox hb; have n0_ := iC.mk (iI hb_ hb); have n1_ := iC.mk (hbox); have n2_ := iC.mk ((by rw [hg]; exact (iQ hb_) : w.heap.size ≤ gb111)); have n3_ := iC.mk ((by rw [hg]; exact (iQ hb_) : w.heap.size ≤ gb111)); clear HB; have HB := n0_; have BK111 := n1_; have GW111 := n2_; have GE111 := n3_; clear n0_ n1_ n2_ n3_; clear hb hbox hg; have hcz22_0 : w21.cell? ⟨gb111, 0, none⟩ = some (.int .u8 a0_0) := (iE BK111.out 0).trans rfl; have hcz22_1 : w21.cell? ⟨gb111, 1, none⟩ = some (.int .u32 a0_1) := (iE BK111.out 1).trans rfl; have hcz22_2 : w21.cell? ⟨gb111, 2, none⟩ = some (.int .u32 a0_2) := (iE BK111.out 2).trans rfl; have hcz22_3 : w21.cell? ⟨gb111, 3, none⟩ = some (.slice A0_3 l0_3.length c0_3) := (iE BK111.out 3).trans rfl; have hcz22_4 : w21.cell? ⟨gb111, 4, none⟩ = some (.slice A0_4 l0_4.length c0_4) := (iE BK111.out 4).trans rfl; have hcz22_5 : w21.cell? ⟨gb111, 5, none⟩ = some (.int .u32 a0_5) := (iE BK111.out 5).trans rfl; have hcz22_6 : w21.cell? ⟨gb111, 6, none⟩ = some (.slice A0_6 l0_6.length c0_6) := (iE BK111.out 6).trans rfl; have hcz22_7 : w21.cell? ⟨gb111, 7, none⟩ = some (.int .i64 a0_7) := (iE BK111.out 7).trans rfl; have hcz22_8 : w21.cell? ⟨gb111, 8, none⟩ = some (.int .i64 a0_8) := (iE BK111.out 8).trans rfl; have hcz22_9 : w21.cell? ⟨gb111, 9, none⟩ = some (.slice A0_9 l0_9.length c0_9) := (iE BK111.out 9).trans rfl; have hfz22_0 := iD BK111.out 0; have hfz22_1 := iD BK111.out 1; have hfz22_2 := iD BK111.out 2; have hfz22_3 := iD BK111.out 3; have hfz22_4 := iD BK111.out 4; have hfz22_5 := iD BK111.out 5; have hfz22_6 := iD BK111.out 6; have hfz22_7 := iD BK111.out 7; have hfz22_8 := iD BK111.out 8; have hfz22_9 := iD BK111.out 9))
            go_ret
            exact ⟨by first | rfl | (simp [iM, iO] <;> rfl) | (simp [*, iM, iO] <;> rfl), by repeat (first | (with_reducible first | exact HB.out | apply iF | apply iG | apply iH | refine iJ ?_ GE111.out) | exact HB.out)⟩
        · rw [if_neg c5] at H
          have c5b0 : ((l0_3.length : Int) == 0) = false := beq_eq_false_iff_ne.mpr c5
          have c5b1 : ((l0_3.length : Int) != 0) = true := bne_iff_ne.mpr c5
          have c5b2 : ¬ (l0_3 = []) := fun h_ => c5 (by rw [h_]; rfl)
          obtain rfl := Option.some.inj H
          go_enter Tryd.func67, Tryd.ntmps67
          go_wp2_with (first | ((with_reducible refine jS (N := 1) rfl ?_); (try (refine jX (by rfl) ?_; dsimp only)); refine jI ?hg (N := 1) ?hd (cs := #[.int .u8 a0_0, .int .u32 a0_1, .int .u32 a0_2, .slice A0_3 l0_3.length c0_3, .slice A0_4 l0_4.length c0_4, .int .u32 a0_5, .slice A0_6 l0_6.length c0_6, .int .i64 a0_7, .int .i64 a0_8, .slice A0_9 l0_9.length c0_9]) (t := 30) ?hr ?_; (case hd => rfl); (case hg => rfl); (case hr => first | (go_simp; done) | (go_simp; rfl)); intro gb111 hg w23 hbox hb; have n0_ := iC.mk (iI hb_ hb); have n1_ := iC.mk (hbox); have n2_ := iC.mk ((by rw [hg]; exact (iQ hb_) : w.heap.size ≤ gb111)); have n3_ := iC.mk ((by rw [hg]; exact (iQ hb_) : w.heap.size ≤ gb111)); clear HB; have HB := n0_; have BK111 := n1_; have GW111 := n2_; have GE111 := n3_; clear n0_ n1_ n2_ n3_; clear hb hbox hg; have hcz24_0 : w23.cell? ⟨gb111, 0, none⟩ = some (.int .u8 a0_0) := (iE BK111.out 0).trans rfl; have hcz24_1 : w23.cell? ⟨gb111, 1, none⟩ = some (.int .u32 a0_1) := (iE BK111.out 1).trans rfl; have hcz24_2 : w23.cell? ⟨gb111, 2, none⟩ = some (.int .u32 a0_2) := (iE BK111.out 2).trans rfl; have hcz24_3 : w23.cell? ⟨gb111, 3, none⟩ = some (.slice A0_3 l0_3.length c0_3) := (iE BK111.out 3).trans rfl; have hcz24_4 : w23.cell? ⟨gb111, 4, none⟩ = some (.slice A0_4 l0_4.length c0_4) := (iE BK111.out 4).trans rfl; have hcz24_5 : w23.cell? ⟨gb111, 5, none⟩ = some (.int .u32 a0_5) := (iE BK111.out 5).trans rfl; have hcz24_6 : w23.cell? ⟨gb111, 6, none⟩ = some (.slice A0_6 l0_6.length c0_6) := (iE BK111.out 6).trans rfl; have hcz24_7 : w23.cell? ⟨gb111, 7, none⟩ = some (.int .i64 a0_7) := (iE BK111.out 7).trans rfl; have hcz24_8 : w23.cell? ⟨gb111, 8, none⟩ = some (.int .i64 a0_8) := (iE BK111.out 8).trans rfl; have hcz24_9 : w23.cell? ⟨gb111, 9, none⟩ = some (.slice A0_9 l0_9.length c0_9) := (iE BK111.out 9).trans rfl; have hfz24_0 := iD BK111.out 0; have hfz24_1 := iD BK111.out 1; have hfz24_2 := iD BK111.out 2; have hfz24_3 := iD BK111.out 3; have hfz24_4 := iD BK111.out 4; have hfz24_5 := iD BK111.out 5; have hfz24_6 := iD BK111.out 6; have hfz24_7 := iD BK111.out 7; have hfz24_8 := iD BK111.out 8; have hfz24_9 := iD BK111.out 9))
          go_ret
          exact ⟨by first | rfl | (simp [iM, iO] <;> rfl) | (simp [*, iM, iO] <;> rfl), by repeat (first | (with_reducible first | exact HB.out | apply iF | apply iG | apply iH | refine iJ ?_ GE111.out) | exact HB.out)⟩
      · rw [if_neg c4] at H
        have c4b0 : (a0_2 == 0) = false := beq_eq_false_iff_ne.mpr c4
        have c4b1 : (a0_2 != 0) = true := bne_iff_ne.mpr c4
        obtain rfl := Option.some.inj H
        go_enter Tryd.func67, Tryd.ntmps67
        go_wp2_with (first | ((with_reducible refine jS (N := 1) rfl ?_); (try (refine jX (by rfl) ?_; dsimp only)); refine jI ?hg (N := 1) ?hd (cs := #[.int .u8 a0_0, .int .u32 a0_1, .int .u32 a0_2, .slice A0_3 l0_3.length c0_3, .slice A0_4 l0_4.length c0_4, .int .u32 a0_5, .slice A0_6 l0_6.length c0_6, .int .i64 a0_7, .int .i64 a0_8, .slice A0_9 l0_9.length c0_9]) (t := 30) ?hr ?_; (case hd => rfl); (case hg => rfl); (case hr => first | (go_simp; done) | (go_simp; rfl)); intro gb111 hg w25 hbox hb; have n0_ := iC.mk (iI hb_ hb); have n1_ := iC.mk (hbox); have n2_ := iC.mk ((by rw [hg]; exact (iQ hb_) : w.heap.size ≤ gb111)); have n3_ := iC.mk ((by rw [hg]; exact (iQ hb_) : w.heap.size ≤ gb111)); clear HB; have HB := n0_; have BK111 := n1_; have GW111 := n2_; have GE111 := n3_; clear n0_ n1_ n2_ n3_; clear hb hbox hg; have hcz26_0 : w25.cell? ⟨gb111, 0, none⟩ = some (.int .u8 a0_0) := (iE BK111.out 0).trans rfl; have hcz26_1 : w25.cell? ⟨gb111, 1, none⟩ = some (.int .u32 a0_1) := (iE BK111.out 1).trans rfl; have hcz26_2 : w25.cell? ⟨gb111, 2, none⟩ = some (.int .u32 a0_2) := (iE BK111.out 2).trans rfl; have hcz26_3 : w25.cell? ⟨gb111, 3, none⟩ = some (.slice A0_3 l0_3.length c0_3) := (iE BK111.out 3).trans rfl; have hcz26_4 : w25.cell? ⟨gb111, 4, none⟩ = some (.slice A0_4 l0_4.length c0_4) := (iE BK111.out 4).trans rfl; have hcz26_5 : w25.cell? ⟨gb111, 5, none⟩ = some (.int .u32 a0_5) := (iE BK111.out 5).trans rfl; have hcz26_6 : w25.cell? ⟨gb111, 6, none⟩ = some (.slice A0_6 l0_6.length c0_6) := (iE BK111.out 6).trans rfl; have hcz26_7 : w25.cell? ⟨gb111, 7, none⟩ = some (.int .i64 a0_7) := (iE BK111.out 7).trans rfl; have hcz26_8 : w25.cell? ⟨gb111, 8, none⟩ = some (.int .i64 a0_8) := (iE BK111.out 8).trans rfl; have hcz26_9 : w25.cell? ⟨gb111, 9, none⟩ = some (.slice A0_9 l0_9.length c0_9) := (iE BK111.out 9).trans rfl; have hfz26_0 := iD BK111.out 0; have hfz26_1 := iD BK111.out 1; have hfz26_2 := iD BK111.out 2; have hfz26_3 := iD BK111.out 3; have hfz26_4 := iD BK111.out 4; have hfz26_5 := iD BK111.out 5; have hfz26_6 := iD BK111.out 6; have hfz26_7 := iD BK111.out 7; have hfz26_8 := iD BK111.out 8; have hfz26_9 := iD BK111.out 9))
        go_ret
        exact ⟨by first | rfl | (simp [iM, iO] <;> rfl) | (simp [*, iM, iO] <;> rfl), by repeat (first | (with_reducible first | exact HB.out | apply iF | apply iG | apply iH | refine iJ ?_ GE111.out) | exact HB.out)⟩
    · rw [if_neg c3] at H
      have c3b0 : (a0_1 == 0) = false := beq_eq_false_iff_ne.mpr c3
      have c3b1 : (a0_1 != 0) = true := bne_iff_ne.mpr c3
      obtain rfl := Option.some.inj H
      go_enter Tryd.func67, Tryd.ntmps67
      go_wp2_with (first | ((with_reducible refine jS (N := 1) rfl ?_); (try (refine jX (by rfl) ?_; dsimp only)); refine jI ?hg (N := 1) ?hd (cs := #[.int .u8 a0_0, .int .u32 a0_1, .int .u32 a0_2, .slice A0_3 l0_3.length c0_3, .slice A0_4 l0_4.length c0_4, .int .u32 a0_5, .slice A0_6 l0_6.length c0_6, .int .i64 a0_7, .int .i64 a0_8, .slice A0_9 l0_9.length c0_9]) (t := 30) ?hr ?_; (case hd => rfl); (case hg => rfl); (case hr => first | (go_simp; done) | (go_simp; rfl)); intro gb111 hg w27 hbox hb; have n0_ := iC.mk (iI hb_ hb); have n1_ := iC.mk (hbox); have n2_ := iC.mk ((by rw [hg]; exact (iQ hb_) : w.heap.size ≤ gb111)); have n3_ := iC.mk ((by rw [hg]; exact (iQ hb_) : w.heap.size ≤ gb111)); clear HB; have HB := n0_; have BK111 := n1_; have GW111 := n2_; have GE111 := n3_; clear n0_ n1_ n2_ n3_; clear hb hbox hg; have hcz28_0 : w27.cell? ⟨gb111, 0, none⟩ = some (.int .u8 a0_0) := (iE BK111.out 0).trans rfl; have hcz28_1 : w27.cell? ⟨gb111, 1, none⟩ = some (.int .u32 a0_1) := (iE BK111.out 1).trans rfl; have hcz28_2 : w27.cell? ⟨gb111, 2, none⟩ = some (.int .u32 a0_2) := (iE BK111.out 2).trans rfl; have hcz28_3 : w27.cell? ⟨gb111, 3, none⟩ = some (.slice A0_3 l0_3.length c0_3) := (iE BK111.out 3).trans rfl; have hcz28_4 : w27.cell? ⟨gb111, 4, none⟩ = some (.slice A0_4 l0_4.length c0_4) := (iE BK111.out 4).trans rfl; have hcz28_5 : w27.cell? ⟨gb111, 5, none⟩ = some (.int .u32 a0_5) := (iE BK111.out 5).trans rfl; have hcz28_6 : w27.cell? ⟨gb111, 6, none⟩ = some (.slice A0_6 l0_6.length c0_6) := (iE BK111.out 6).trans rfl; have hcz28_7 : w27.cell? ⟨gb111, 7, none⟩ = some (.int .i64 a0_7) := (iE BK111.out 7).trans rfl; have hcz28_8 : w27.cell? ⟨gb111, 8, none⟩ = some (.int .i64 a0_8) := (iE BK111.out 8).trans rfl; have hcz28_9 : w27.cell? ⟨gb111, 9, none⟩ = some (.slice A0_9 l0_9.length c0_9) := (iE BK111.out 9).trans rfl; have hfz28_0 := iD BK111.out 0; have hfz28_1 := iD BK111.out 1; have hfz28_2 := iD BK111.out 2; have hfz28_3 := iD BK111.out 3; have hfz28_4 := iD BK111.out 4; have hfz28_5 := iD BK111.out 5; have hfz28_6 := iD BK111.out 6; have hfz28_7 := iD BK111.out 7; have hfz28_8 := iD BK111.out 8; have hfz28_9 := iD BK111.out 9))
      go_ret
      exact ⟨by first | rfl | (simp [iM, iO] <;> rfl) | (simp [*, iM, iO] <;> rfl), by repeat (first | (with_reducible first | exact HB.out | apply iF | apply iG | apply iH | refine iJ ?_ GE111.out) | exact HB.out)⟩
  · rw [if_neg c2] at H
    have c2b0 : (a0_0 == 0) = false := beq_eq_false_iff_ne.mpr c2
    have c2b1 : (a0_0 != 0) = true := bne_iff_ne.mpr c2
    obtain rfl := Option.some.inj H
    go_enter Tryd.func67, Tryd.ntmps67
    go_wp2_with (first | ((with_reducible refine jS (N := 1) rfl ?_); (try (refine jX (by rfl) ?_; dsimp only)); refine jI ?hg (N := 1) ?hd (cs := #[.int .u8 a0_0, .int .u32 a0_1, .int .u32 a0_2, .slice A0_3 l0_3.length c0_3, .slice A0_4 l0_4.length c0_4, .int .u32 a0_5, .slice A0_6 l0_6.length c0_6, .int .i64 a0_7, .int .i64 a0_8, .slice A0_9 l0_9.length c0_9]) (t := 30) ?hr ?_; (case hd => rfl); (case hg => rfl); (case hr => first | (go_simp; done) | (go_simp; rfl)); intro gb111 hg w29 hbox hb; have n0_ := iC.mk (iI hb_ hb); have n1_ := iC.mk (hbox); have n2_ := iC.mk ((by rw [hg]; exact (iQ hb_) : w.heap.size ≤ gb111)); have n3_ := iC.mk ((by rw [hg]; exact (iQ hb_) : w.heap.size ≤ gb111)); clear HB; have HB := n0_; have BK111 := n1_; have GW111 := n2_; have GE111 := n3_; clear n0_ n1_ n2_ n3_; clear hb hbox hg; have hcz30_0 : w29.cell? ⟨gb111, 0, none⟩ = some (.int .u8 a0_0) := (iE BK111.out 0).trans rfl; have hcz30_1 : w29.cell? ⟨gb111, 1, none⟩ = some (.int .u32 a0_1) := (iE BK111.out 1).trans rfl; have hcz30_2 : w29.cell? ⟨gb111, 2, none⟩ = some (.int .u32 a0_2) := (iE BK111.out 2).trans rfl; have hcz30_3 : w29.cell? ⟨gb111, 3, none⟩ = some (.slice A0_3 l0_3.length c0_3) := (iE BK111.out 3).trans rfl; have hcz30_4 : w29.cell? ⟨gb111, 4, none⟩ = some (.slice A0_4 l0_4.length c0_4) := (iE BK111.out 4).trans rfl; have hcz30_5 : w29.cell? ⟨gb111, 5, none⟩ = some (.int .u32 a0_5) := (iE BK111.out 5).trans rfl; have hcz30_6 : w29.cell? ⟨gb111, 6, none⟩ = some (.slice A0_6 l0_6.length c0_6) := (iE BK111.out 6).trans rfl; have hcz30_7 : w29.cell? ⟨gb111, 7, none⟩ = some (.int .i64 a0_7) := (iE BK111.out 7).trans rfl; have hcz30_8 : w29.cell? ⟨gb111, 8, none⟩ = some (.int .i64 a0_8) := (iE BK111.out 8).trans rfl; have hcz30_9 : w29.cell? ⟨gb111, 9, none⟩ = some (.slice A0_9 l0_9.length c0_9) := (iE BK111.out 9).trans rfl; have hfz30_0 := iD BK111.out 0; have hfz30_1 := iD BK111.out 1; have hfz30_2 := iD BK111.out 2; have hfz30_3 := iD BK111.out 3; have hfz30_4 := iD BK111.out 4; have hfz30_5 := iD BK111.out 5; have hfz30_6 := iD BK111.out 6; have hfz30_7 := iD BK111.out 7; have hfz30_8 := iD BK111.out 8; have hfz30_9 := iD BK111.out 9))
    go_ret
    exact ⟨by first | rfl | (simp [iM, iO] <;> rfl) | (simp [*, iM, iO] <;> rfl), by repeat (first | (with_reducible first | exact HB.out | apply iF | apply iG | apply iH | refine iJ ?_ GE111.out) | exact HB.out)⟩
end Go.Proofs.YtgfkgppomaapiaaDoor.K
end

section
namespace Go.Proofs.YtgfkgppomaapiaaDoor.K
open RowKit YtgfkgppomaapiaaDoorW.PrintWords YtgfkgppomaapiaaDoorW.PrintLast YtgfkgppomaapiaaDoorW.PrintMore My
theorem IX {w w' : World} (h : iW w w') : Below w.heap.size w w' := by
  obtain ⟨n, rfl⟩ := h
  exact iG (Below.refl _ _) n
theorem mQ {i : Int} {n : Nat} (h0 : 0 ≤ i) (h : i < (n : Int)) (hn : n ≤ 9223372036854775807) : wrap64 (i + 1) = i + 1 := by unfold wrap64; omega
theorem QN (l : List Int) (hn : l.length ≤ 9223372036854775807) (d : Nat) : ∀ (k : Nat) (last i : Int), 0 ≤ i → i ≤ l.length → (l.length : Int) - i = d → d < k → code_rises.l0 k last l (l.length : Int) i = some (lU last (l.drop i.toNat)) := by
  induction d with
  | zero =>
    intro k last i h0 h1 hd hk
    obtain ⟨k, rfl⟩ : ∃ m, k = m + 1 := ⟨k - 1, by omega⟩
    simp only [code_rises.l0]
    rw [if_neg (by omega), List.drop_of_length_le (by omega)]
    rfl
  | succ d ih =>
    intro k last i h0 h1 hd hk
    obtain ⟨k, rfl⟩ : ∃ m, k = m + 1 := ⟨k - 1, by omega⟩
    have hlt : i < (l.length : Int) := by omega
    have hnat : i.toNat < l.length := by omega
    have hdrop : l.drop i.toNat = rd l i :: l.drop (i + 1).toNat := by
      rw [List.drop_eq_getElem_cons hnat, show (i + 1).toNat = i.toNat + 1 by omega]
      congr 1
      unfold rd
      rw [List.getD_eq_getElem?_getD, List.getElem?_eq_getElem hnat]
      rfl
    simp only [code_rises.l0]
    rw [if_pos hlt, if_pos h0, if_pos hlt, hdrop, lU]
    by_cases c1 : rd l i ≤ last
    · rw [if_pos c1, decide_eq_false (by omega : ¬ last < rd l i)]
      rfl
    · rw [if_neg c1, decide_eq_true (by omega : last < rd l i)]
      by_cases c2 : rd l i ≥ 6
      · rw [if_pos c2, decide_eq_false (by omega : ¬ rd l i < 6)]
        rfl
      · rw [if_neg c2, decide_eq_true (by omega : rd l i < 6), mQ h0 hlt hn]
        exact ih k _ (i + 1) (by omega) (by omega) (by omega) (by omega)
theorem oQ (A : Option Addr) (c : Nat) (l : List Int) (w : World) (hr : Kd.C (Kd.int .i64) w A l.length l) (hc : l.length ≤ c) :
    Calls Tryd.prog 61 #[.slice A l.length c] w fun e w' => e = .returned (.bool (lU (-1) l)) ∧ Below w.heap.size w w' :=
  (code_rises.calls (l.length + 1) A c l _ w hr hc (by unfold code_rises.f; rw [QN l (kQ hr) l.length (l.length + 1) (-1) 0 (by omega) (by omega) (by omega) (by omega)]; rfl)).mono fun _ _ ⟨he, hd⟩ => ⟨he, IX hd⟩
def gapB (p : Option Int) (a : Int) : Bool := match p with | none => true | some q => decide (q < a)
theorem qW (p : Option Int) (e : jE) (l : List jE) : mZ p (e :: l) = (lW e.f1 && gapB p e.f0 && mZ (some e.f0) l) := by
  cases p <;> rfl
def pU (l : List jE) (i : Int) : Option Int := if 0 < i then some (iP l (i - 1)).f0 else none
theorem LP (l : List jE) (hn : l.length ≤ 9223372036854775807) (d : Nat) : ∀ (k : Nat) (i : Int), 0 ≤ i → i ≤ l.length → (l.length : Int) - i = d → d < k →
    code_history.l0 k l l (l.length : Int) i = some (mZ (pU l i) (l.drop i.toNat) && decide ((l.length : Int) ≤ 5000)) := by
  induction d with
  | zero =>
    intro k i h0 h1 hd hk
    obtain ⟨k, rfl⟩ : ∃ m, k = m + 1 := ⟨k - 1, by omega⟩
    simp only [code_history.l0]
    rw [if_neg (by omega), List.drop_of_length_le (by omega)]
    rfl
  | succ d ih =>
    intro k i h0 h1 hd hk
    obtain ⟨k, rfl⟩ : ∃ m, k = m + 1 := ⟨k - 1, by omega⟩
    have hlt : i < (l.length : Int) := by omega
    have hnat : i.toNat < l.length := by omega
    have hdrop : l.drop i.toNat = iP l i :: l.drop (i + 1).toNat := by
      rw [List.drop_eq_getElem_cons hnat, show (i + 1).toNat = i.toNat + 1 by omega]
      congr 1
      unfold iP
      rw [List.getD_eq_getElem?_getD, List.getElem?_eq_getElem hnat]
      rfl
    have hnext : pU l (i + 1) = some (iP l i).f0 := by
      unfold pU
      rw [if_pos (by omega), show i + 1 - 1 = i by omega]
    have hih := ih k (i + 1) (by omega) (by omega) (by omega) (by omega)
    rw [hnext] at hih
    simp only [code_history.l0]
    rw [if_pos hlt, if_pos h0, if_pos hlt, hdrop, qW]
    simp only [code_batch.f, Option.bind_some]
    rw [mQ h0 hlt hn, hih]
    cases lW (iP l i).f1 with
    | false => rfl
    | true =>
      rw [if_pos rfl]
      by_cases hi : i > 0
      · have hw : wrap64 (i - 1) = i - 1 := by unfold wrap64; omega
        rw [if_pos hi, hw, if_pos (by omega), if_pos (by omega)]
        unfold pU gapB
        rw [if_pos hi]
        simp only [Bool.true_and]
        by_cases c1 : (iP l i).f0 ≤ (iP l (i - 1)).f0
        · rw [if_pos c1, decide_eq_false (show ¬ (iP l (i - 1)).f0 < (iP l i).f0 by omega)]
          rfl
        · rw [if_neg c1, decide_eq_true (show (iP l (i - 1)).f0 < (iP l i).f0 by omega)]
          rfl
      · rw [if_neg hi]
        unfold pU gapB
        rw [if_neg hi]
        rfl
theorem mM (A : Option Addr) (c : Nat) (l : List jE) (w : World) (hr : Kd.C k86 w A l.length l) (hc : l.length ≤ c) :
    Calls Tryd.prog 66 #[.slice A l.length c] w fun e w' => e = .returned (.bool (nC l && decide ((l.length : Int) ≤ 5000))) ∧ Below w.heap.size w w' :=
  code_history.calls (l.length + 1) A c l _ w hr hc (by unfold code_history.f; rw [LP l (kQ hr) l.length (l.length + 1) 0 (by omega) (by omega) (by omega) (by omega)]; rfl)
def l7 (a0 a1 a2 : Int) (l3 : List Int) (l4 : List jO) (a5 : Int) (l6 : List jV) (a7 a8 : Int) (l9 : List jE) : Bool :=
  a0 == 0 && a1 == 0 && a2 == 0 && l3.isEmpty && l4.isEmpty && a5 == 0 && l6.isEmpty && a7 == 0 && a8 == 0 && l9.isEmpty
theorem JR {α : Type} (l : List α) : ((l.length : Int) = 0) = (l.isEmpty = true) := by
  cases l with
  | nil => simp
  | cons x l => simp; omega
theorem PX (a0 a1 a2 : Int) (l3 : List Int) (l4 : List jO) (a5 : Int) (l6 : List jV) (a7 a8 : Int) (l9 : List jE) : code_plain.f a0 a1 a2 l3 l4 a5 l6 a7 a8 l9 = some (l7 a0 a1 a2 l3 l4 a5 l6 a7 a8 l9) := by
  unfold code_plain.f l7
  have e9 : ((l9.length : Int) == 0) = l9.isEmpty := by
    rw [Bool.eq_iff_iff, beq_iff_eq, JR]
  rw [e9]
  simp only [JR]
  by_cases h0 : a0 = 0
  · by_cases h1 : a1 = 0
    · by_cases h2 : a2 = 0
      · cases h3 : l3.isEmpty
        · simp [h0, h1, h2]
        · cases h4 : l4.isEmpty
          · simp [h0, h1, h2]
          · by_cases h5 : a5 = 0
            · cases h6 : l6.isEmpty
              · simp [h0, h1, h2, h5]
              · by_cases h7 : a7 = 0
                · by_cases h8 : a8 = 0
                  · simp [h0, h1, h2, h5, h7, h8]
                  · simp [h0, h1, h2, h5, h7, h8]
                · simp [h0, h1, h2, h5, h7]
            · simp [h0, h1, h2, h5]
      · simp [h0, h1, h2]
    · simp [h0, h1]
  · simp [h0]
theorem QE (s : jV) : lT s = (decide (0 ≤ s.f0) && decide (s.f0 ≤ 9999) && decide (0 ≤ s.f1) && decide (s.f1 < 6)) := rfl
set_option maxHeartbeats 1000000 in
theorem QH (s : jV) (w : World) :
    Calls Tryd.prog 65 #[.agg #[.int .i64 s.f0, .int .i64 s.f1]] w fun e w' => e = .returned (.bool (lT s)) ∧ Below w.heap.size w w' := by
  rw [QE]
  by_cases h0 : 0 ≤ s.f0
  · by_cases h1 : s.f0 ≤ 9999
    · by_cases h2 : 0 ≤ s.f1
      · by_cases h3 : s.f1 < 6
        · rw [decide_eq_true h0, decide_eq_true h1, decide_eq_true h2, decide_eq_true h3]
          go_enter Tryd.func65, Tryd.ntmps65
          go_wp2
          go_ret
          exact ⟨rfl, iF (Below.refl _ _) _⟩
        · rw [decide_eq_true h0, decide_eq_true h1, decide_eq_true h2, decide_eq_false h3]
          go_enter Tryd.func65, Tryd.ntmps65
          go_wp2
          go_ret
          exact ⟨rfl, iF (Below.refl _ _) _⟩
      · rw [decide_eq_true h0, decide_eq_true h1, decide_eq_false h2, Bool.and_false, Bool.false_and]
        go_enter Tryd.func65, Tryd.ntmps65
        go_wp2
        go_ret
        exact ⟨rfl, iF (Below.refl _ _) _⟩
    · rw [decide_eq_true h0, decide_eq_false h1, Bool.and_false, Bool.false_and, Bool.false_and]
      go_enter Tryd.func65, Tryd.ntmps65
      go_wp2
      go_ret
      exact ⟨rfl, iF (Below.refl _ _) _⟩
  · rw [decide_eq_false h0, Bool.false_and, Bool.false_and, Bool.false_and]
    go_enter Tryd.func65, Tryd.ntmps65
    go_wp2
    go_ret
    exact ⟨rfl, iF (Below.refl _ _) _⟩
set_option maxHeartbeats 400000 in
theorem JK (s : jV) (w : World) :
    Calls Tryd.prog 64 #[.agg #[.int .i64 s.f0, .int .i64 s.f1]] w fun e w' => e = .returned (.bool (!lT s)) ∧ Below w.heap.size w w' := by
  have hcall := QH s (w.alloc (.cells #[.int .i64 s.f0, .int .i64 s.f1] 98))
  generalize lT s = b at hcall
  go_enter Tryd.func64, Tryd.ntmps64
  go_wp2_with (go_at_call 65; refine hcall.mono ?_; rintro e w' ⟨rfl, hb⟩)
  go_ret
  exact ⟨rfl, iI (iF (Below.refl _ _) _) hb⟩
def uX : jV := z98
set_option maxHeartbeats 1000000 in
theorem JP (A : Option Addr) (c : Nat) (l : List jV) (w : World) (hr : Kd.C k98 w A l.length l) :
    Calls Tryd.prog 95 #[.slice A l.length c, .func (.func 64) #[] #[]] w (IV (l.any fun f => !lT f) w) := by
  have hm := kQ hr
  have HR := iC.mk hr
  clear hr
  go_enter Tryd.func95, Tryd.ntmps95
  go_wp2
  go_loopg [5, 8] l.length (fun gg _ s8 wr => ∃ k : Nat, k ≤ l.length ∧ l.length - k ≤ gg ∧ s8 = .int .i64 k ∧ iC (Below w.heap.size w wr) ∧ iC ((l.take k).any (fun f => !lT f) = false))
  case atStart => exact ⟨0, Nat.zero_le _, by omega, rfl, ⟨Below.refl _ _⟩, ⟨rfl⟩⟩
  case round =>
    obtain ⟨k, hk, hg, rfl, HW, HA⟩ := hrel
    by_cases hlt : k < l.length
    · obtain ⟨ad, rfl, hx0, hx1⟩ := lI (Kd.C_below HR.out HW.out) (k : Int) (by omega) (by omega)
      have hsn := any_take_succ (fun f => !lT f) uX l k hlt
      have hgd : jL l (k : Int) = l.getD k uX := by unfold jL uX; rw [Int.toNat_natCast]
      rw [hgd] at hx0 hx1
      rw [Int.toNat_natCast] at hx0 hx1
      clear hgd
      obtain ⟨f, hf⟩ : ∃ v, v = l.getD k uX := ⟨_, rfl⟩
      rw [← hf] at hx0 hx1 hsn
      have hcall := JK f wr
      cases hq : (!lT f) with
      | true =>
        have HH := iC.mk (IW (fun f => !lT f) uX l k hlt (by rw [← hf]; exact hq))
        rw [hq] at hcall
        clear hf hsn hq
        go_wp2_with (go_at_call 64; refine hcall.mono ?_; rintro e w' ⟨rfl, hb⟩)
        go_ret
        exact ⟨k, rfl, by rw [HH.out]; simp, iI HW.out hb⟩
      | false =>
        have HN := iC.mk (show (l.take (k + 1)).any (fun f => !lT f) = false by rw [hsn, HA.out, hq]; rfl)
        rw [hq] at hcall
        clear hf hsn hq
        go_wp2_with (go_at_call 64; refine hcall.mono ?_; rintro e w' ⟨rfl, hb⟩)
        go_roundg (l.length - (k + 1))
        case measure => omega
        case rel => exact ⟨k + 1, by omega, by omega, by go_num, ⟨iI HW.out hb⟩, HN⟩
    · have : k = l.length := by omega
      subst this
      go_wp2
      go_ret
      exact ⟨-1, rfl, by rw [yH _ _ HA.out]; rfl, HW.out⟩
set_option maxHeartbeats 400000 in
theorem vF (A : Option Addr) (c : Nat) (l : List jV) (w : World) (hr : Kd.C k98 w A l.length l) :
    Calls Tryd.prog 63 #[.slice A l.length c, .func (.func 64) #[] #[]] w fun e w' => e = .returned (.bool (l.any fun f => !lT f)) ∧ Below w.heap.size w w' := by
  have hcall := JP A c l w hr
  clear hr
  generalize (l.any fun f => !lT f) = b at hcall
  go_enter Tryd.func63, Tryd.ntmps63
  go_wp2_with (go_at_call 95; refine hcall.mono ?_; rintro e w' ⟨r, rfl, hr, hb⟩; have HR := iC.mk hr; clear hr)
  go_ret
  exact ⟨by rw [← HR.out]; rfl, hb⟩
end Go.Proofs.YtgfkgppomaapiaaDoor.K
end

section
namespace Go.Proofs.YtgfkgppomaapiaaDoor.K
open RowKit YtgfkgppomaapiaaDoorW.PrintWords YtgfkgppomaapiaaDoorW.PrintLast YtgfkgppomaapiaaDoorW.PrintMore My
theorem ten {w : World} {b t : Nat} {v0 v1 v2 v3 v4 v5 v6 v7 v8 v9 : Value} (h : w.heap[b]? = some (.cells #[v0, v1, v2, v3, v4, v5, v6, v7, v8, v9] t (0, 0))) :
    w.cell? ⟨b, 0, none⟩ = some v0 ∧ w.cell? ⟨b, 1, none⟩ = some v1 ∧ w.cell? ⟨b, 2, none⟩ = some v2 ∧ w.cell? ⟨b, 3, none⟩ = some v3 ∧ w.cell? ⟨b, 4, none⟩ = some v4 ∧ w.cell? ⟨b, 5, none⟩ = some v5 ∧ w.cell? ⟨b, 6, none⟩ = some v6 ∧ w.cell? ⟨b, 7, none⟩ = some v7 ∧ w.cell? ⟨b, 8, none⟩ = some v8 ∧ w.cell? ⟨b, 9, none⟩ = some v9 ∧
    w.frozen? ⟨b, 0, none⟩ = false ∧ w.frozen? ⟨b, 1, none⟩ = false ∧ w.frozen? ⟨b, 2, none⟩ = false ∧ w.frozen? ⟨b, 3, none⟩ = false ∧ w.frozen? ⟨b, 4, none⟩ = false ∧ w.frozen? ⟨b, 5, none⟩ = false ∧ w.frozen? ⟨b, 6, none⟩ = false ∧ w.frozen? ⟨b, 7, none⟩ = false ∧ w.frozen? ⟨b, 8, none⟩ = false ∧ w.frozen? ⟨b, 9, none⟩ = false :=
  ⟨(iE h 0).trans rfl, (iE h 1).trans rfl, (iE h 2).trans rfl, (iE h 3).trans rfl, (iE h 4).trans rfl, (iE h 5).trans rfl, (iE h 6).trans rfl, (iE h 7).trans rfl, (iE h 8).trans rfl, (iE h 9).trans rfl,
   iD h 0, iD h 1, iD h 2, iD h 3, iD h 4, iD h 5, iD h 6, iD h 7, iD h 8, iD h 9⟩
theorem mP (a0 a1 a2 : Int) (A3 : Option Addr) (c3 : Nat) (l3 : List Int) (A4 : Option Addr) (c4 : Nat) (l4 : List jO) (a5 : Int) (A6 : Option Addr) (c6 : Nat) (l6 : List jV) (a7 a8 : Int) (A9 : Option Addr) (c9 : Nat) (l9 : List jE) (w : World)
    (h3 : Kd.C (Kd.int .i64) w A3 l3.length l3) (d3 : l3.length ≤ c3) (h4 : Kd.C k139 w A4 l4.length l4) (d4 : l4.length ≤ c4) (h6 : Kd.C k98 w A6 l6.length l6) (d6 : l6.length ≤ c6) (h9 : Kd.C k86 w A9 l9.length l9) (d9 : l9.length ≤ c9) :
    Calls Tryd.prog 67 #[.agg #[.int .u8 a0, .int .u32 a1, .int .u32 a2, .slice A3 l3.length c3, .slice A4 l4.length c4, .int .u32 a5, .slice A6 l6.length c6, .int .i64 a7, .int .i64 a8, .slice A9 l9.length c9]] w fun e w' => e = .returned (.bool (l7 a0 a1 a2 l3 l4 a5 l6 a7 a8 l9)) ∧ Below w.heap.size w w' :=
  code_plain.calls a0 a1 a2 A3 c3 l3 A4 c4 l4 a5 A6 c6 l6 a7 a8 A9 c9 l9 _ w h3 d3 h4 d4 h6 d6 h9 d9 (PX _ _ _ _ _ _ _ _ _ _)
def code_Sound.f (a0_0 : Int) (a0_1 : Int) (a0_2 : Int) (l0_3 : List Int) (l0_4 : List jO) (a0_5 : Int) (l0_6 : List jV) (a0_7 : Int) (a0_8 : Int) (l0_9 : List jE) : Option Bool :=
  some (jJ ⟨a0_0, a0_1, a0_2, l0_3, l0_4, ⟨a0_5, l0_6⟩, a0_7, a0_8, l0_9⟩)
theorem PK (a1 a2 : Int) (l3 : List Int) (l4 : List jO) (a5 : Int) (l6 : List jV) (a7 a8 : Int) (l9 : List jE) : jJ ⟨1, a1, a2, l3, l4, ⟨a5, l6⟩, a7, a8, l9⟩ = (lU (-1) l3 && lW l4 && l7 0 0 a2 [] [] a5 l6 a7 a8 l9) := by
  simp [jJ, l7, Bool.and_assoc]
theorem ND (a1 a2 : Int) (l3 : List Int) (l4 : List jO) (a5 : Int) (l6 : List jV) (a7 a8 : Int) (l9 : List jE) : jJ ⟨2, a1, a2, l3, l4, ⟨a5, l6⟩, a7, a8, l9⟩ = (lU (-1) l3 && l7 0 0 0 [] l4 a5 l6 a7 a8 l9) := by
  simp [jJ, l7, Bool.and_assoc]
theorem yD (a0 a1 a2 : Int) (l3 : List Int) (l4 : List jO) (a5 : Int) (l6 : List jV) (a7 a8 : Int) (l9 : List jE) (h : a0 = 3 ∨ a0 = 4 ∨ a0 = 5) : jJ ⟨a0, a1, a2, l3, l4, ⟨a5, l6⟩, a7, a8, l9⟩ = l7 0 0 a2 l3 l4 a5 l6 a7 a8 l9 := by
  rcases h with rfl | rfl | rfl <;> simp [jJ, l7, Bool.and_assoc]
theorem P7 (a1 a2 : Int) (l3 : List Int) (l4 : List jO) (a5 : Int) (l6 : List jV) (a7 a8 : Int) (l9 : List jE) : jJ ⟨6, a1, a2, l3, l4, ⟨a5, l6⟩, a7, a8, l9⟩ = (decide (a1 = 0) && decide ((l6.length : Int) ≤ 40) && !(l6.any fun s => !lT s) && l7 0 0 a2 l3 l4 0 [] a7 a8 l9) := by
  have e1 : l6.all lT = !(l6.any fun s => !lT s) := by rw [List.any_eq_not_all_not, Bool.not_not]; congr 1; funext v; simp
  have e2 : decide (l6.length ≤ 40) = decide ((l6.length : Int) ≤ 40) := by rw [decide_eq_decide]; omega
  have e3 : (a1 == 0) = decide (a1 = 0) := by rw [Bool.eq_iff_iff]; simp
  rw [← e1, ← e2, ← e3]
  simp [jJ, l7, Bool.and_assoc]
theorem O3 (a1 a2 : Int) (l3 : List Int) (l4 : List jO) (a5 : Int) (l6 : List jV) (a7 a8 : Int) (l9 : List jE) : jJ ⟨7, a1, a2, l3, l4, ⟨a5, l6⟩, a7, a8, l9⟩ = ((nC l9 && decide ((l9.length : Int) ≤ 5000)) && decide (0 ≤ a7) && decide (a7 ≤ 10000) && decide (0 ≤ a8) && decide (a8 ≤ 10000) && l7 0 0 a2 l3 l4 a5 l6 0 0 []) := by
  have e2 : decide (l9.length ≤ 5000) = decide ((l9.length : Int) ≤ 5000) := by rw [decide_eq_decide]; omega
  rw [← e2]
  simp [jJ, l7, Bool.and_assoc]
theorem OC (a0 a1 a2 : Int) (l3 : List Int) (l4 : List jO) (a5 : Int) (l6 : List jV) (a7 a8 : Int) (l9 : List jE) (h : a0 < 1 ∨ 7 < a0) : jJ ⟨a0, a1, a2, l3, l4, ⟨a5, l6⟩, a7, a8, l9⟩ = false := by
  unfold jJ
  simp only
  rw [if_neg (by omega), if_neg (by omega), if_neg (by simp; omega), if_neg (by omega), if_neg (by omega)]
section
variable (a0 a1 a2 : Int) (A3 : Option Addr) (c3 : Nat) (l3 : List Int) (A4 : Option Addr) (c4 : Nat) (l4 : List jO) (a5 : Int) (A6 : Option Addr) (c6 : Nat) (l6 : List jV) (a7 a8 : Int) (A9 : Option Addr) (c9 : Nat) (l9 : List jE) (w : World)
  (h3 : Kd.C (Kd.int .i64) w A3 l3.length l3) (d3 : l3.length ≤ c3) (h4 : Kd.C k139 w A4 l4.length l4) (d4 : l4.length ≤ c4) (h6 : Kd.C k98 w A6 l6.length l6) (d6 : l6.length ≤ c6) (h9 : Kd.C k86 w A9 l9.length l9) (d9 : l9.length ≤ c9)
include h3 d3 h4 d4 h6 d6 h9 d9
set_option maxHeartbeats 4000000 in
set_option maxRecDepth 20000 in
theorem MC : Calls Tryd.prog 19 #[.agg #[.int .u8 1, .int .u32 a1, .int .u32 a2, .slice A3 l3.length c3, .slice A4 l4.length c4, .int .u32 a5, .slice A6 l6.length c6, .int .i64 a7, .int .i64 a8, .slice A9 l9.length c9]] w fun e w' => e = .returned (.bool (jJ ⟨1, a1, a2, l3, l4, ⟨a5, l6⟩, a7, a8, l9⟩)) ∧ Below w.heap.size w w' := by
  have H3 := iC.mk h3; have H4 := iC.mk h4; have H6 := iC.mk h6; have H9 := iC.mk h9
  clear h3 h4 h6 h9
  rw [PK]
  cases hr : lU (-1) l3 with
  | false =>
    have HQ := iC.mk hr
    clear hr
    rw [Bool.false_and, Bool.false_and]
    go_enter Tryd.func19, Tryd.ntmps19
    go_wp2_with (go_at_call 61; refine (oQ _ _ l3 _ (Kd.C_below H3.out bel_) d3).mono ?_; rintro e w1 ⟨rfl, hb1⟩; rw [HQ.out]; have hbk := ten (iK hb1 (iT rfl)); obtain ⟨z0, z1, z2, z3, z4, z5, z6, z7, z8, z9, y0, y1, y2, y3, y4, y5, y6, y7, y8, y9⟩ := hbk)
    go_ret
    exact ⟨rfl, bel_⟩
  | true =>
    have HQ := iC.mk hr
    clear hr
    rw [Bool.true_and]
    cases hb : lW l4 with
    | false =>
      have HQ2 := iC.mk hb
      clear hb
      rw [Bool.false_and]
      go_enter Tryd.func19, Tryd.ntmps19
      go_wp2_with (first | (go_at_call 61; refine (oQ _ _ l3 _ (Kd.C_below H3.out bel_) d3).mono ?_; rintro e w1 ⟨rfl, hb1⟩; rw [HQ.out]; have hbk := ten (iK hb1 (iT rfl)); obtain ⟨z0, z1, z2, z3, z4, z5, z6, z7, z8, z9, y0, y1, y2, y3, y4, y5, y6, y7, y8, y9⟩ := hbk) | (go_at_call 62; refine (code_batch.calls _ _ l4 _ _ (Kd.C_below H4.out bel_) d4 rfl).mono ?_; rintro e w2 ⟨rfl, hb2⟩; rw [HQ2.out]; have hbk1 := iK hb2 (iK hb1 (iT rfl)); clear z0 z1 z2 z3 z4 z5 z6 z7 z8 z9 y0 y1 y2 y3 y4 y5 y6 y7 y8 y9; obtain ⟨z0, z1, z2, z3, z4, z5, z6, z7, z8, z9, y0, y1, y2, y3, y4, y5, y6, y7, y8, y9⟩ := ten hbk1; clear hbk1))
      go_ret
      exact ⟨rfl, bel_⟩
    | true =>
      have HQ2 := iC.mk hb
      clear hb
      rw [Bool.true_and]
      generalize hp : l7 0 0 a2 [] [] a5 l6 a7 a8 l9 = P
      have HP := iC.mk hp
      clear hp
      go_enter Tryd.func19, Tryd.ntmps19
      go_wp2_with (first | (go_at_call 61; refine (oQ _ _ l3 _ (Kd.C_below H3.out bel_) d3).mono ?_; rintro e w1 ⟨rfl, hb1⟩; rw [HQ.out]; have hbk := ten (iK hb1 (iT rfl)); obtain ⟨z0, z1, z2, z3, z4, z5, z6, z7, z8, z9, y0, y1, y2, y3, y4, y5, y6, y7, y8, y9⟩ := hbk) | (go_at_call 62; refine (code_batch.calls _ _ l4 _ _ (Kd.C_below H4.out bel_) d4 rfl).mono ?_; rintro e w2 ⟨rfl, hb2⟩; rw [HQ2.out]; have hbk1 := iK hb2 (iK hb1 (iT rfl)); clear z0 z1 z2 z3 z4 z5 z6 z7 z8 z9 y0 y1 y2 y3 y4 y5 y6 y7 y8 y9; obtain ⟨z0, z1, z2, z3, z4, z5, z6, z7, z8, z9, y0, y1, y2, y3, y4, y5, y6, y7, y8, y9⟩ := ten hbk1; clear hbk1) | (go_at_call 67; refine (mP 0 0 a2 none 0 ([] : List Int) none 0 ([] : List jO) a5 A6 c6 l6 a7 a8 A9 c9 l9 _ (Kd.C_nil _ _) (Nat.le_refl _) (Kd.C_nil _ _) (Nat.le_refl _) (Kd.C_below H6.out bel_) d6 (Kd.C_below H9.out bel_) d9).mono ?_; rintro e w9 ⟨rfl, hb9⟩))
      go_ret
      exact ⟨by rw [← HP.out]; rfl, bel_⟩
set_option maxHeartbeats 4000000 in
set_option maxRecDepth 20000 in
theorem MG : Calls Tryd.prog 19 #[.agg #[.int .u8 2, .int .u32 a1, .int .u32 a2, .slice A3 l3.length c3, .slice A4 l4.length c4, .int .u32 a5, .slice A6 l6.length c6, .int .i64 a7, .int .i64 a8, .slice A9 l9.length c9]] w fun e w' => e = .returned (.bool (jJ ⟨2, a1, a2, l3, l4, ⟨a5, l6⟩, a7, a8, l9⟩)) ∧ Below w.heap.size w w' := by
  have H3 := iC.mk h3; have H4 := iC.mk h4; have H6 := iC.mk h6; have H9 := iC.mk h9
  clear h3 h4 h6 h9
  rw [ND]
  cases hr : lU (-1) l3 with
  | false =>
    have HQ := iC.mk hr
    clear hr
    rw [Bool.false_and]
    go_enter Tryd.func19, Tryd.ntmps19
    go_wp2_with (go_at_call 61; refine (oQ _ _ l3 _ (Kd.C_below H3.out bel_) d3).mono ?_; rintro e w1 ⟨rfl, hb1⟩; rw [HQ.out]; have hbk := ten (iK hb1 (iT rfl)); obtain ⟨z0, z1, z2, z3, z4, z5, z6, z7, z8, z9, y0, y1, y2, y3, y4, y5, y6, y7, y8, y9⟩ := hbk)
    go_ret
    exact ⟨rfl, bel_⟩
  | true =>
    have HQ := iC.mk hr
    clear hr
    rw [Bool.true_and]
    generalize hp : l7 0 0 0 [] l4 a5 l6 a7 a8 l9 = P
    have HP := iC.mk hp
    clear hp
    go_enter Tryd.func19, Tryd.ntmps19
    go_wp2_with (first | (go_at_call 61; refine (oQ _ _ l3 _ (Kd.C_below H3.out bel_) d3).mono ?_; rintro e w1 ⟨rfl, hb1⟩; rw [HQ.out]; have hbk := ten (iK hb1 (iT rfl)); obtain ⟨z0, z1, z2, z3, z4, z5, z6, z7, z8, z9, y0, y1, y2, y3, y4, y5, y6, y7, y8, y9⟩ := hbk) | (go_at_call 67; refine (mP 0 0 0 none 0 ([] : List Int) A4 c4 l4 a5 A6 c6 l6 a7 a8 A9 c9 l9 _ (Kd.C_nil _ _) (Nat.le_refl _) (Kd.C_below H4.out bel_) d4 (Kd.C_below H6.out bel_) d6 (Kd.C_below H9.out bel_) d9).mono ?_; rintro e w9 ⟨rfl, hb9⟩))
    go_ret
    exact ⟨by rw [← HP.out]; rfl, bel_⟩
set_option maxHeartbeats 4000000 in
set_option maxRecDepth 20000 in
theorem zQ (ha : a0 = 3 ∨ a0 = 4 ∨ a0 = 5) : Calls Tryd.prog 19 #[.agg #[.int .u8 a0, .int .u32 a1, .int .u32 a2, .slice A3 l3.length c3, .slice A4 l4.length c4, .int .u32 a5, .slice A6 l6.length c6, .int .i64 a7, .int .i64 a8, .slice A9 l9.length c9]] w fun e w' => e = .returned (.bool (jJ ⟨a0, a1, a2, l3, l4, ⟨a5, l6⟩, a7, a8, l9⟩)) ∧ Below w.heap.size w w' := by
  have H3 := iC.mk h3; have H4 := iC.mk h4; have H6 := iC.mk h6; have H9 := iC.mk h9
  clear h3 h4 h6 h9
  rcases ha with rfl | rfl | rfl
  ·
    rw [yD _ _ _ _ _ _ _ _ _ _ (by omega)]
    generalize hp : l7 0 0 a2 l3 l4 a5 l6 a7 a8 l9 = P
    have HP := iC.mk hp
    clear hp
    go_enter Tryd.func19, Tryd.ntmps19
    go_wp2_with (go_at_call 67; refine (mP 0 0 a2 A3 c3 l3 A4 c4 l4 a5 A6 c6 l6 a7 a8 A9 c9 l9 _ (Kd.C_below H3.out bel_) d3 (Kd.C_below H4.out bel_) d4 (Kd.C_below H6.out bel_) d6 (Kd.C_below H9.out bel_) d9).mono ?_; rintro e w9 ⟨rfl, hb9⟩)
    go_ret
    exact ⟨by rw [← HP.out]; rfl, bel_⟩
  ·
    rw [yD _ _ _ _ _ _ _ _ _ _ (by omega)]
    generalize hp : l7 0 0 a2 l3 l4 a5 l6 a7 a8 l9 = P
    have HP := iC.mk hp
    clear hp
    go_enter Tryd.func19, Tryd.ntmps19
    go_wp2_with (go_at_call 67; refine (mP 0 0 a2 A3 c3 l3 A4 c4 l4 a5 A6 c6 l6 a7 a8 A9 c9 l9 _ (Kd.C_below H3.out bel_) d3 (Kd.C_below H4.out bel_) d4 (Kd.C_below H6.out bel_) d6 (Kd.C_below H9.out bel_) d9).mono ?_; rintro e w9 ⟨rfl, hb9⟩)
    go_ret
    exact ⟨by rw [← HP.out]; rfl, bel_⟩
  ·
    rw [yD _ _ _ _ _ _ _ _ _ _ (by omega)]
    generalize hp : l7 0 0 a2 l3 l4 a5 l6 a7 a8 l9 = P
    have HP := iC.mk hp
    clear hp
    go_enter Tryd.func19, Tryd.ntmps19
    go_wp2_with (go_at_call 67; refine (mP 0 0 a2 A3 c3 l3 A4 c4 l4 a5 A6 c6 l6 a7 a8 A9 c9 l9 _ (Kd.C_below H3.out bel_) d3 (Kd.C_below H4.out bel_) d4 (Kd.C_below H6.out bel_) d6 (Kd.C_below H9.out bel_) d9).mono ?_; rintro e w9 ⟨rfl, hb9⟩)
    go_ret
    exact ⟨by rw [← HP.out]; rfl, bel_⟩
set_option maxHeartbeats 4000000 in
set_option maxRecDepth 20000 in
theorem LM : Calls Tryd.prog 19 #[.agg #[.int .u8 6, .int .u32 a1, .int .u32 a2, .slice A3 l3.length c3, .slice A4 l4.length c4, .int .u32 a5, .slice A6 l6.length c6, .int .i64 a7, .int .i64 a8, .slice A9 l9.length c9]] w fun e w' => e = .returned (.bool (jJ ⟨6, a1, a2, l3, l4, ⟨a5, l6⟩, a7, a8, l9⟩)) ∧ Below w.heap.size w w' := by
  have _ := d6
  have H3 := iC.mk h3; have H4 := iC.mk h4; have H6 := iC.mk h6; have H9 := iC.mk h9
  clear h3 h4 h6 h9
  rw [P7]
  by_cases q1 : a1 = 0
  · subst q1
    by_cases q2 : (l6.length : Int) ≤ 40
    · rw [decide_eq_true (rfl : (0 : Int) = 0), decide_eq_true q2]
      cases hr : (l6.any fun s => !lT s) with
      | true =>
        have HQ := iC.mk hr
        clear hr
        go_enter Tryd.func19, Tryd.ntmps19
        go_wp2_with (first | (go_at_call 63; refine (vF _ _ l6 _ (Kd.C_below H6.out bel_)).mono ?_; rintro e w1 ⟨rfl, hb1⟩; rw [HQ.out]; have hbk := ten (iK hb1 (iT rfl)); obtain ⟨z0, z1, z2, z3, z4, z5, z6, z7, z8, z9, y0, y1, y2, y3, y4, y5, y6, y7, y8, y9⟩ := hbk) | (go_at_call 67; refine (mP 0 0 a2 A3 c3 l3 A4 c4 l4 0 none 0 ([] : List jV) a7 a8 A9 c9 l9 _ (Kd.C_below H3.out bel_) d3 (Kd.C_below H4.out bel_) d4 (Kd.C_nil _ _) (Nat.le_refl _) (Kd.C_below H9.out bel_) d9).mono ?_; rintro e w9 ⟨rfl, hb9⟩))
        go_ret
        exact ⟨rfl, bel_⟩
      | false =>
        have HQ := iC.mk hr
        clear hr
        rw [show (true && true && !false && l7 0 0 a2 l3 l4 0 [] a7 a8 l9) = l7 0 0 a2 l3 l4 0 [] a7 a8 l9 by simp]
        generalize hp : l7 0 0 a2 l3 l4 0 [] a7 a8 l9 = P
        have HP := iC.mk hp
        clear hp
        go_enter Tryd.func19, Tryd.ntmps19
        go_wp2_with (first | (go_at_call 63; refine (vF _ _ l6 _ (Kd.C_below H6.out bel_)).mono ?_; rintro e w1 ⟨rfl, hb1⟩; rw [HQ.out]; have hbk := ten (iK hb1 (iT rfl)); obtain ⟨z0, z1, z2, z3, z4, z5, z6, z7, z8, z9, y0, y1, y2, y3, y4, y5, y6, y7, y8, y9⟩ := hbk) | (go_at_call 67; refine (mP 0 0 a2 A3 c3 l3 A4 c4 l4 0 none 0 ([] : List jV) a7 a8 A9 c9 l9 _ (Kd.C_below H3.out bel_) d3 (Kd.C_below H4.out bel_) d4 (Kd.C_nil _ _) (Nat.le_refl _) (Kd.C_below H9.out bel_) d9).mono ?_; rintro e w9 ⟨rfl, hb9⟩))
        go_ret
        exact ⟨by rw [← HP.out]; rfl, bel_⟩
    · rw [decide_eq_true (rfl : (0 : Int) = 0), decide_eq_false q2]
      go_enter Tryd.func19, Tryd.ntmps19
      go_wp2_with fail
      go_ret
      exact ⟨rfl, bel_⟩
  · rw [decide_eq_false q1, Bool.false_and, Bool.false_and, Bool.false_and]
    have q1' : (a1 == 0) = false := beq_eq_false_iff_ne.mpr q1
    go_enter Tryd.func19, Tryd.ntmps19
    go_wp2_with fail
    go_ret
    exact ⟨rfl, bel_⟩
set_option maxHeartbeats 4000000 in
set_option maxRecDepth 20000 in
theorem N8 : Calls Tryd.prog 19 #[.agg #[.int .u8 7, .int .u32 a1, .int .u32 a2, .slice A3 l3.length c3, .slice A4 l4.length c4, .int .u32 a5, .slice A6 l6.length c6, .int .i64 a7, .int .i64 a8, .slice A9 l9.length c9]] w fun e w' => e = .returned (.bool (jJ ⟨7, a1, a2, l3, l4, ⟨a5, l6⟩, a7, a8, l9⟩)) ∧ Below w.heap.size w w' := by
  have H3 := iC.mk h3; have H4 := iC.mk h4; have H6 := iC.mk h6; have H9 := iC.mk h9
  clear h3 h4 h6 h9
  rw [O3]
  cases hr : (nC l9 && decide ((l9.length : Int) ≤ 5000)) with
  | false =>
    have HQ := iC.mk hr
    clear hr
    rw [Bool.false_and, Bool.false_and, Bool.false_and, Bool.false_and, Bool.false_and]
    go_enter Tryd.func19, Tryd.ntmps19
    go_wp2_with (go_at_call 66; refine (mM _ _ l9 _ (Kd.C_below H9.out bel_) d9).mono ?_; rintro e w1 ⟨rfl, hb1⟩; rw [HQ.out]; have hbk := ten (iK hb1 (iT rfl)); obtain ⟨z0, z1, z2, z3, z4, z5, z6, z7, z8, z9, y0, y1, y2, y3, y4, y5, y6, y7, y8, y9⟩ := hbk)
    go_ret
    exact ⟨rfl, bel_⟩
  | true =>
    have HQ := iC.mk hr
    clear hr
    by_cases q1 : 0 ≤ a7
    · by_cases q2 : a7 ≤ 10000
      · by_cases q3 : 0 ≤ a8
        · by_cases q4 : a8 ≤ 10000
          · rw [decide_eq_true q1, decide_eq_true q2, decide_eq_true q3, decide_eq_true q4]
            rw [show (true && true && true && true && true && l7 0 0 a2 l3 l4 a5 l6 0 0 []) = l7 0 0 a2 l3 l4 a5 l6 0 0 [] by simp]
            generalize hp : l7 0 0 a2 l3 l4 a5 l6 0 0 [] = P
            have HP := iC.mk hp
            clear hp
            go_enter Tryd.func19, Tryd.ntmps19
            go_wp2_with (first | (go_at_call 66; refine (mM _ _ l9 _ (Kd.C_below H9.out bel_) d9).mono ?_; rintro e w1 ⟨rfl, hb1⟩; rw [HQ.out]; have hbk := ten (iK hb1 (iT rfl)); obtain ⟨z0, z1, z2, z3, z4, z5, z6, z7, z8, z9, y0, y1, y2, y3, y4, y5, y6, y7, y8, y9⟩ := hbk) | (go_at_call 67; refine (mP 0 0 a2 A3 c3 l3 A4 c4 l4 a5 A6 c6 l6 0 0 none 0 ([] : List jE) _ (Kd.C_below H3.out bel_) d3 (Kd.C_below H4.out bel_) d4 (Kd.C_below H6.out bel_) d6 (Kd.C_nil _ _) (Nat.le_refl _)).mono ?_; rintro e w9 ⟨rfl, hb9⟩))
            go_ret
            exact ⟨by rw [← HP.out]; rfl, bel_⟩
          · rw [decide_eq_false q4, Bool.and_false, Bool.false_and]
            go_enter Tryd.func19, Tryd.ntmps19
            go_wp2_with (go_at_call 66; refine (mM _ _ l9 _ (Kd.C_below H9.out bel_) d9).mono ?_; rintro e w1 ⟨rfl, hb1⟩; rw [HQ.out]; have hbk := ten (iK hb1 (iT rfl)); obtain ⟨z0, z1, z2, z3, z4, z5, z6, z7, z8, z9, y0, y1, y2, y3, y4, y5, y6, y7, y8, y9⟩ := hbk)
            go_ret
            exact ⟨rfl, bel_⟩
        · rw [decide_eq_false q3, Bool.and_false, Bool.false_and, Bool.false_and]
          go_enter Tryd.func19, Tryd.ntmps19
          go_wp2_with (go_at_call 66; refine (mM _ _ l9 _ (Kd.C_below H9.out bel_) d9).mono ?_; rintro e w1 ⟨rfl, hb1⟩; rw [HQ.out]; have hbk := ten (iK hb1 (iT rfl)); obtain ⟨z0, z1, z2, z3, z4, z5, z6, z7, z8, z9, y0, y1, y2, y3, y4, y5, y6, y7, y8, y9⟩ := hbk)
          go_ret
          exact ⟨rfl, bel_⟩
      · rw [decide_eq_false q2, Bool.and_false, Bool.false_and, Bool.false_and, Bool.false_and]
        go_enter Tryd.func19, Tryd.ntmps19
        go_wp2_with (go_at_call 66; refine (mM _ _ l9 _ (Kd.C_below H9.out bel_) d9).mono ?_; rintro e w1 ⟨rfl, hb1⟩; rw [HQ.out]; have hbk := ten (iK hb1 (iT rfl)); obtain ⟨z0, z1, z2, z3, z4, z5, z6, z7, z8, z9, y0, y1, y2, y3, y4, y5, y6, y7, y8, y9⟩ := hbk)
        go_ret
        exact ⟨rfl, bel_⟩
    · rw [decide_eq_false q1, Bool.and_false, Bool.false_and, Bool.false_and, Bool.false_and, Bool.false_and]
      go_enter Tryd.func19, Tryd.ntmps19
      go_wp2_with (go_at_call 66; refine (mM _ _ l9 _ (Kd.C_below H9.out bel_) d9).mono ?_; rintro e w1 ⟨rfl, hb1⟩; rw [HQ.out]; have hbk := ten (iK hb1 (iT rfl)); obtain ⟨z0, z1, z2, z3, z4, z5, z6, z7, z8, z9, y0, y1, y2, y3, y4, y5, y6, y7, y8, y9⟩ := hbk)
      go_ret
      exact ⟨rfl, bel_⟩
set_option maxHeartbeats 4000000 in
set_option maxRecDepth 20000 in
theorem LW (ha : a0 < 1 ∨ 7 < a0) : Calls Tryd.prog 19 #[.agg #[.int .u8 a0, .int .u32 a1, .int .u32 a2, .slice A3 l3.length c3, .slice A4 l4.length c4, .int .u32 a5, .slice A6 l6.length c6, .int .i64 a7, .int .i64 a8, .slice A9 l9.length c9]] w fun e w' => e = .returned (.bool (jJ ⟨a0, a1, a2, l3, l4, ⟨a5, l6⟩, a7, a8, l9⟩)) ∧ Below w.heap.size w w' := by
  have _ := d3; have _ := d4; have _ := d6; have _ := d9
  have H3 := iC.mk h3; have H4 := iC.mk h4; have H6 := iC.mk h6; have H9 := iC.mk h9
  clear h3 h4 h6 h9
  rw [OC _ _ _ _ _ _ _ _ _ _ ha]
  have q1 : (a0 == 1) = false := beq_eq_false_iff_ne.mpr (by omega)
  have q2 : (a0 == 2) = false := beq_eq_false_iff_ne.mpr (by omega)
  have q3 : (a0 == 3) = false := beq_eq_false_iff_ne.mpr (by omega)
  have q4 : (a0 == 4) = false := beq_eq_false_iff_ne.mpr (by omega)
  have q5 : (a0 == 5) = false := beq_eq_false_iff_ne.mpr (by omega)
  have q6 : (a0 == 6) = false := beq_eq_false_iff_ne.mpr (by omega)
  have q7 : (a0 == 7) = false := beq_eq_false_iff_ne.mpr (by omega)
  clear ha
  go_enter Tryd.func19, Tryd.ntmps19
  go_wp2
  go_ret
  exact ⟨rfl, bel_⟩
end
theorem code_Sound.calls (a0_0 : Int) (a0_1 : Int) (a0_2 : Int) (A0_3 : Option Addr) (c0_3 : Nat) (l0_3 : List Int) (A0_4 : Option Addr) (c0_4 : Nat) (l0_4 : List jO) (a0_5 : Int) (A0_6 : Option Addr) (c0_6 : Nat) (l0_6 : List jV) (a0_7 : Int) (a0_8 : Int) (A0_9 : Option Addr) (c0_9 : Nat) (l0_9 : List jE) (r : Bool) (w : World) (hr0_3 : Kd.C (Kd.int .i64) w A0_3 l0_3.length l0_3) (hc0_3 : l0_3.length ≤ c0_3) (hr0_4 : Kd.C k139 w A0_4 l0_4.length l0_4) (hc0_4 : l0_4.length ≤ c0_4) (hr0_6 : Kd.C k98 w A0_6 l0_6.length l0_6) (hc0_6 : l0_6.length ≤ c0_6) (hr0_9 : Kd.C k86 w A0_9 l0_9.length l0_9) (hc0_9 : l0_9.length ≤ c0_9) (h : code_Sound.f a0_0 a0_1 a0_2 l0_3 l0_4 a0_5 l0_6 a0_7 a0_8 l0_9 = some r) :
    Calls Tryd.prog 19 #[.agg #[.int .u8 a0_0, .int .u32 a0_1, .int .u32 a0_2, .slice A0_3 l0_3.length c0_3, .slice A0_4 l0_4.length c0_4, .int .u32 a0_5, .slice A0_6 l0_6.length c0_6, .int .i64 a0_7, .int .i64 a0_8, .slice A0_9 l0_9.length c0_9]] w fun e w' => e = .returned (.bool r) ∧ Below w.heap.size w w' := by
  obtain rfl := Option.some.inj h
  clear h
  by_cases h0 : a0_0 < 1 ∨ 7 < a0_0
  · exact LW a0_0 a0_1 a0_2 A0_3 c0_3 l0_3 A0_4 c0_4 l0_4 a0_5 A0_6 c0_6 l0_6 a0_7 a0_8 A0_9 c0_9 l0_9 w hr0_3 hc0_3 hr0_4 hc0_4 hr0_6 hc0_6 hr0_9 hc0_9 h0
  have h7 : a0_0 = 1 ∨ a0_0 = 2 ∨ (a0_0 = 3 ∨ a0_0 = 4 ∨ a0_0 = 5) ∨ a0_0 = 6 ∨ a0_0 = 7 := by omega
  rcases h7 with rfl | rfl | h3 | rfl | rfl
  · exact MC a0_1 a0_2 A0_3 c0_3 l0_3 A0_4 c0_4 l0_4 a0_5 A0_6 c0_6 l0_6 a0_7 a0_8 A0_9 c0_9 l0_9 w hr0_3 hc0_3 hr0_4 hc0_4 hr0_6 hc0_6 hr0_9 hc0_9
  · exact MG a0_1 a0_2 A0_3 c0_3 l0_3 A0_4 c0_4 l0_4 a0_5 A0_6 c0_6 l0_6 a0_7 a0_8 A0_9 c0_9 l0_9 w hr0_3 hc0_3 hr0_4 hc0_4 hr0_6 hc0_6 hr0_9 hc0_9
  · exact zQ a0_0 a0_1 a0_2 A0_3 c0_3 l0_3 A0_4 c0_4 l0_4 a0_5 A0_6 c0_6 l0_6 a0_7 a0_8 A0_9 c0_9 l0_9 w hr0_3 hc0_3 hr0_4 hc0_4 hr0_6 hc0_6 hr0_9 hc0_9 h3
  · exact LM a0_1 a0_2 A0_3 c0_3 l0_3 A0_4 c0_4 l0_4 a0_5 A0_6 c0_6 l0_6 a0_7 a0_8 A0_9 c0_9 l0_9 w hr0_3 hc0_3 hr0_4 hc0_4 hr0_6 hc0_6 hr0_9 hc0_9
  · exact N8 a0_1 a0_2 A0_3 c0_3 l0_3 A0_4 c0_4 l0_4 a0_5 A0_6 c0_6 l0_6 a0_7 a0_8 A0_9 c0_9 l0_9 w hr0_3 hc0_3 hr0_4 hc0_4 hr0_6 hc0_6 hr0_9 hc0_9
end Go.Proofs.YtgfkgppomaapiaaDoor.K
end

section
namespace Go.Proofs.YtgfkgppomaapiaaDoor.K
open RowKit YtgfkgppomaapiaaDoorW.PrintWords YtgfkgppomaapiaaDoorW.PrintLast YtgfkgppomaapiaaDoorW.PrintMore My
theorem pM (s : Nat) (S : Int) (hS : S = s) (hs8 : s ≤ 8) {g : Nat} {l r : List UInt8} {x : Int} {w0 w : World} (h : Rd w0 w g l) (hb : Below w0.heap.size w0 w) (hp : intP s l = some (x, r)) :
    ∃ m : Nat, x = (m : Int) ∧ m < 256 ^ s ∧ r.length + s = l.length ∧ Calls Tryd.prog 119 #[.pointer (some ⟨g, 0, none⟩), .int .i64 S] w fun e w' => e = .returned (.int .u64 (m : Int)) ∧ Rd w0 w' g r ∧ w.grownBy w' (some g) := by
  obtain ⟨h1, h2, h3⟩ := mD hp
  refine ⟨numB (l.take s), h2, ?_, ?_, ?_⟩
  · have := rJ (l.take s)
    rwa [List.length_take, Nat.min_eq_left h1] at this
  · rw [h3, List.length_drop]; omega
  · rw [h3]; exact lY s S hS hs8 g l w0 w h hb h1
theorem rF {l : List UInt8} (h : intP 1 l = none) : recP l = none := by unfold recP; rw [h]; rfl
theorem xQ {l r : List UInt8} {x : Int} (h : intP 1 l = some (x, r)) (h1 : intP 4 r = none) : recP l = none := by unfold recP; rw [h]; simp only [Option.bind_some]; rw [h1]; rfl
theorem I5 {l r r1 : List UInt8} {x y : Int} (h : intP 1 l = some (x, r)) (h1 : intP 4 r = some (y, r1)) : recP l = nO x y r1 := by unfold recP; rw [h]; simp only [Option.bind_some]; rw [h1]; rfl
theorem uS : Short mF := fun l x r h => by
  unfold mF at h
  obtain ⟨⟨n, r1⟩, h1, h⟩ := Option.bind_eq_some_iff.1 h
  have a := (lC h1 (by omega)).1
  have b := oC (nN 1) n _ _ _ h
  simp only at a b
  omega
theorem IZ : Short oK := fun l x r h => by
  unfold oK at h
  obtain ⟨⟨n, r1⟩, h1, h⟩ := Option.bind_eq_some_iff.1 h
  have a := (lC h1 (by omega)).1
  have b := oC (p := qC) (fun l x r h => by
    unfold qC at h
    obtain ⟨⟨x1, r1⟩, h1, h⟩ := Option.bind_eq_some_iff.1 h
    obtain ⟨⟨x2, r2⟩, h2, h⟩ := Option.bind_eq_some_iff.1 h
    injection h with h
    injection h with e1 e2
    subst e2
    have a := nN 4 _ _ _ h1
    have b := nN 1 _ _ _ h2
    exact Nat.le_trans b a) n _ _ _ h
  simp only at a b
  omega
theorem yT : Short kL := fun l x r h => by
  unfold kL at h
  obtain ⟨⟨n, r1⟩, h1, h⟩ := Option.bind_eq_some_iff.1 h
  have a := (lC h1 (by omega)).1
  have b := oC (p := lL) (fun l x r h => by
    unfold lL at h
    obtain ⟨⟨x1, r1⟩, h1, h⟩ := Option.bind_eq_some_iff.1 h
    obtain ⟨⟨x2, r2⟩, h2, h⟩ := Option.bind_eq_some_iff.1 h
    injection h with h
    injection h with e1 e2
    subst e2
    have a := nN 4 _ _ _ h1
    have b := qE _ _ _ h2
    exact Nat.le_trans b a) n _ _ _ h
  simp only at a b
  omega
theorem jH (w : World) (b : Nat) (cs : Array Value) : w.grownBy (w.setRow b cs) (some b) := ⟨rfl, rfl, rfl, by simp, fun k _ hne => setRow_other w b k cs (fun e => hne (by rw [e]))⟩
structure RInv (w0 w W : World) (g b : Nat) (r : List UInt8) (cs : Array Value) : Prop where
  rd : Rd w0 W g r
  gr : w.grownBy W (some g)
  bl : Below w0.heap.size w0 W
  x : W.heap[b]? = some (.cells cs 30 (0, 0))
  res : W.heap[w.heap.size]? = some (.cells #[.int .u8 0, .int .u32 0, .int .u32 0, .slice none 0 0, .slice none 0 0, .int .u32 0, .slice none 0 0, .int .i64 0, .int .i64 0, .slice none 0 0] 30 (0, 0))
  lt : g < w.heap.size
  le : w.heap.size < b
  small : (r.length : Int) ≤ 100000
  hg : w0.heap.size ≤ g
theorem RInv.call {w0 w W W' : World} {g b : Nat} {r r' : List UInt8} {cs : Array Value} (h : RInv w0 w W g b r cs) (hR : Rd w0 W' g r') (hG : W.grownBy W' (some g)) (hl : r'.length ≤ r.length) : RInv w0 w W' g b r' cs :=
  ⟨hR, iR h.gr hG, below_grown h.bl hG h.hg (Nat.le_refl _), (hG.block b (iZ h.x) (fun e => by injection e with e; have := h.lt; have := h.le; omega)).trans h.x, (hG.block _ (iZ h.res) (fun e => by injection e with e; have := h.lt; omega)).trans h.res, h.lt, h.le, by have := h.small; omega, h.hg⟩
theorem RInv.store {w0 w W : World} {g b : Nat} {r : List UInt8} {cs : Array Value} (h : RInv w0 w W g b r cs) (cs' : Array Value) : RInv w0 w (W.setRow b cs') g b r cs' := by
  have h1 := h.lt
  have h2 := h.le
  have h3 := h.hg
  refine ⟨Rd.grown h.rd (jH W b cs') (fun e => by injection e with e; omega), jU h.gr (jH W b cs') (by omega), below_grown h.bl (jH W b cs') (by omega) (Nat.le_refl _), setRow_heap W b cs cs' _ _ h.x, ?_, h1, h2, h.small, h3⟩
  rw [setRow_other W b _ cs' (by omega)]
  exact h.res
theorem RInv.fin {w0 w W : World} {g b : Nat} {r : List UInt8} {cs : Array Value} (h : RInv w0 w W g b r cs) (cs' : Array Value) : w.grownBy (W.setRow w.heap.size cs') (some g) ∧ Rd w0 (W.setRow w.heap.size cs') g r :=
  ⟨jU h.gr (jH W _ cs') (Nat.le_refl _), Rd.grown h.rd (jH W _ cs') (fun e => by injection e with e; have := h.lt; omega)⟩
theorem RInv.fresh {w0 w W : World} {g b : Nat} {r : List UInt8} {cs : Array Value} (h : RInv w0 w W g b r cs) : b < W.heap.size := iZ h.x
def RecV (base : Nat) (x : SRec) (v : Value) (w' : World) : Prop :=
  ∃ v3 v4 v6 v9, v = .agg #[.int .u8 x.f0, .int .u32 x.f1, .int .u32 x.f2, v3, v4, .int .u32 x.f5.f0, v6, .int .i64 x.f6, .int .i64 x.f7, v9] ∧
    Kd.R (Kd.int .i64) 3 w' base (fun _ => True) v3 x.f3 ∧ Kd.R k139 139 w' base (fun k => some k ≠ v3.ownBlock) v4 x.f4 ∧
    Kd.R k98 98 w' base (fun _ => True) v6 x.f5.f1 ∧ Kd.R k86 86 w' base (fun k => some k ≠ v3.ownBlock ∧ some k ≠ v4.ownBlock) v9 x.f8
theorem I7 (a b : Int) : (Tryd.prog).built 30 (#[(0, .int .u8 a), (1, .int .u32 b)] : Array (Nat × Value)).toList = some #[.int .u8 a, .int .u32 b, .int .u32 0, .slice none 0 0, .slice none 0 0, .int .u32 0, .slice none 0 0, .int .i64 0, .int .i64 0, .slice none 0 0] := by kernel_rfl
section
variable {w : World} {b : Nat} {c0 c1 c2 c3 c4 c5 c6 c7 c8 c9 : Value}
theorem TZ (h : w.heap[b]? = some (.cells #[c0, c1, c2, c3, c4, c5, c6, c7, c8, c9] 30 (0, 0))) : (Instr.loadAt 5 (.pointer (some ⟨b, 0, none⟩))).run Tryd.prog w = .ok c0 w := by
  have z0 : w.cell? ⟨b, 0, none⟩ = some c0 := (iE h 0).trans rfl
  simp [go_sem, z0]
theorem st_2 (x : Int) (h : w.heap[b]? = some (.cells #[c0, c1, c2, c3, c4, c5, c6, c7, c8, c9] 30 (0, 0))) : (Instr.storeAt 22 (.pointer (some ⟨b, 2, none⟩)) (.int .u32 x)).run Tryd.prog w = .ok () (w.setRow b #[c0, c1, .int .u32 x, c3, c4, c5, c6, c7, c8, c9]) := by
  have z : w.cell? ⟨b, 2, none⟩ = some c2 := (iE h 2).trans rfl
  have y : w.frozen? ⟨b, 2, none⟩ = false := iD h 2
  rw [show w.setRow b #[c0, c1, .int .u32 x, c3, c4, c5, c6, c7, c8, c9] = w.setCell ⟨b, 2, none⟩ (.int .u32 x) from (setCell_eq_setRow w b 2 _ _ _ (.int .u32 x) h).symm]
  simp [go_sem, z, y]
theorem st_3 (A : Option Addr) (n c : Nat) (h : w.heap[b]? = some (.cells #[c0, c1, c2, c3, c4, c5, c6, c7, c8, c9] 30 (0, 0))) : (Instr.storeAt 23 (.pointer (some ⟨b, 3, none⟩)) (.slice A n c)).run Tryd.prog w = .ok () (w.setRow b #[c0, c1, c2, .slice A n c, c4, c5, c6, c7, c8, c9]) := by
  have z : w.cell? ⟨b, 3, none⟩ = some c3 := (iE h 3).trans rfl
  have y : w.frozen? ⟨b, 3, none⟩ = false := iD h 3
  rw [show w.setRow b #[c0, c1, c2, .slice A n c, c4, c5, c6, c7, c8, c9] = w.setCell ⟨b, 3, none⟩ (.slice A n c) from (setCell_eq_setRow w b 3 _ _ _ (.slice A n c) h).symm]
  simp [go_sem, z, y]
theorem st_4 (A : Option Addr) (n c : Nat) (h : w.heap[b]? = some (.cells #[c0, c1, c2, c3, c4, c5, c6, c7, c8, c9] 30 (0, 0))) : (Instr.storeAt 24 (.pointer (some ⟨b, 4, none⟩)) (.slice A n c)).run Tryd.prog w = .ok () (w.setRow b #[c0, c1, c2, c3, .slice A n c, c5, c6, c7, c8, c9]) := by
  have z : w.cell? ⟨b, 4, none⟩ = some c4 := (iE h 4).trans rfl
  have y : w.frozen? ⟨b, 4, none⟩ = false := iD h 4
  rw [show w.setRow b #[c0, c1, c2, c3, .slice A n c, c5, c6, c7, c8, c9] = w.setCell ⟨b, 4, none⟩ (.slice A n c) from (setCell_eq_setRow w b 4 _ _ _ (.slice A n c) h).symm]
  simp [go_sem, z, y]
theorem st_5 (x : Int) (h : w.heap[b]? = some (.cells #[c0, c1, c2, c3, c4, c5, c6, c7, c8, c9] 30 (0, 0))) : (Instr.storeAt 22 (.pointer (some ⟨b, 5, none⟩)) (.int .u32 x)).run Tryd.prog w = .ok () (w.setRow b #[c0, c1, c2, c3, c4, .int .u32 x, c6, c7, c8, c9]) := by
  have z : w.cell? ⟨b, 5, none⟩ = some c5 := (iE h 5).trans rfl
  have y : w.frozen? ⟨b, 5, none⟩ = false := iD h 5
  rw [show w.setRow b #[c0, c1, c2, c3, c4, .int .u32 x, c6, c7, c8, c9] = w.setCell ⟨b, 5, none⟩ (.int .u32 x) from (setCell_eq_setRow w b 5 _ _ _ (.int .u32 x) h).symm]
  simp [go_sem, z, y]
theorem st_6 (A : Option Addr) (n c : Nat) (h : w.heap[b]? = some (.cells #[c0, c1, c2, c3, c4, c5, c6, c7, c8, c9] 30 (0, 0))) : (Instr.storeAt 25 (.pointer (some ⟨b, 6, none⟩)) (.slice A n c)).run Tryd.prog w = .ok () (w.setRow b #[c0, c1, c2, c3, c4, c5, .slice A n c, c7, c8, c9]) := by
  have z : w.cell? ⟨b, 6, none⟩ = some c6 := (iE h 6).trans rfl
  have y : w.frozen? ⟨b, 6, none⟩ = false := iD h 6
  rw [show w.setRow b #[c0, c1, c2, c3, c4, c5, .slice A n c, c7, c8, c9] = w.setCell ⟨b, 6, none⟩ (.slice A n c) from (setCell_eq_setRow w b 6 _ _ _ (.slice A n c) h).symm]
  simp [go_sem, z, y]
theorem st_7 (x : Int) (h : w.heap[b]? = some (.cells #[c0, c1, c2, c3, c4, c5, c6, c7, c8, c9] 30 (0, 0))) : (Instr.storeAt 3 (.pointer (some ⟨b, 7, none⟩)) (.int .i64 x)).run Tryd.prog w = .ok () (w.setRow b #[c0, c1, c2, c3, c4, c5, c6, .int .i64 x, c8, c9]) := by
  have z : w.cell? ⟨b, 7, none⟩ = some c7 := (iE h 7).trans rfl
  have y : w.frozen? ⟨b, 7, none⟩ = false := iD h 7
  rw [show w.setRow b #[c0, c1, c2, c3, c4, c5, c6, .int .i64 x, c8, c9] = w.setCell ⟨b, 7, none⟩ (.int .i64 x) from (setCell_eq_setRow w b 7 _ _ _ (.int .i64 x) h).symm]
  simp [go_sem, z, y]
theorem st_8 (x : Int) (h : w.heap[b]? = some (.cells #[c0, c1, c2, c3, c4, c5, c6, c7, c8, c9] 30 (0, 0))) : (Instr.storeAt 3 (.pointer (some ⟨b, 8, none⟩)) (.int .i64 x)).run Tryd.prog w = .ok () (w.setRow b #[c0, c1, c2, c3, c4, c5, c6, c7, .int .i64 x, c9]) := by
  have z : w.cell? ⟨b, 8, none⟩ = some c8 := (iE h 8).trans rfl
  have y : w.frozen? ⟨b, 8, none⟩ = false := iD h 8
  rw [show w.setRow b #[c0, c1, c2, c3, c4, c5, c6, c7, .int .i64 x, c9] = w.setCell ⟨b, 8, none⟩ (.int .i64 x) from (setCell_eq_setRow w b 8 _ _ _ (.int .i64 x) h).symm]
  simp [go_sem, z, y]
theorem st_9 (A : Option Addr) (n c : Nat) (h : w.heap[b]? = some (.cells #[c0, c1, c2, c3, c4, c5, c6, c7, c8, c9] 30 (0, 0))) : (Instr.storeAt 28 (.pointer (some ⟨b, 9, none⟩)) (.slice A n c)).run Tryd.prog w = .ok () (w.setRow b #[c0, c1, c2, c3, c4, c5, c6, c7, c8, .slice A n c]) := by
  have z : w.cell? ⟨b, 9, none⟩ = some c9 := (iE h 9).trans rfl
  have y : w.frozen? ⟨b, 9, none⟩ = false := iD h 9
  rw [show w.setRow b #[c0, c1, c2, c3, c4, c5, c6, c7, c8, .slice A n c] = w.setCell ⟨b, 9, none⟩ (.slice A n c) from (setCell_eq_setRow w b 9 _ _ _ (.slice A n c) h).symm]
  simp [go_sem, z, y]
end
theorem nU {w : World} {b : Nat} {cs : Array Value} (h : w.heap[b]? = some (.cells cs 30 (0, 0))) (hs : cs.size = 10) : (Instr.loadAt 30 (.pointer (some ⟨b, 0, none⟩))).run Tryd.prog w = .ok (.agg cs) w := by
  simp only [Instr.loadAt, Instr.sureAddr, Sem.run_bind, Sem.run_pure, Result.andThen]
  exact run_loadVar_row w b 30 30 cs (0, 0) _ h Tryd.underlying30 rfl (by rw [hs]; kernel_rfl)
theorem mG {w : World} {b : Nat} {c0 c1 c2 c3 c4 c5 c6 c7 c8 c9 : Value} {a k i : Int} {x3 x4 x6 x9 : Value} {j p q : Int} (h : w.heap[b]? = some (.cells #[c0, c1, c2, c3, c4, c5, c6, c7, c8, c9] 30 (0, 0))) (o3 : x3.oneCell' = true) (o4 : x4.oneCell' = true) (o6 : x6.oneCell' = true) (o9 : x9.oneCell' = true) :
    (Instr.storeAt 30 (.pointer (some ⟨b, 0, none⟩)) (.agg #[.int .u8 a, .int .u32 k, .int .u32 i, x3, x4, .int .u32 j, x6, .int .i64 p, .int .i64 q, x9])).run Tryd.prog w = .ok () (w.setRow b #[.int .u8 a, .int .u32 k, .int .u32 i, x3, x4, .int .u32 j, x6, .int .i64 p, .int .i64 q, x9]) := by
  simp only [Instr.storeAt, Instr.sureAddr, Sem.run_bind, Sem.run_pure, Result.andThen]
  exact run_storeVar_row w b 30 30 _ _ h (by kernel_rfl) rfl (by simp [o3, o4, o6, o9, show ∀ k n, (Value.int k n).oneCell' = true from fun _ _ => rfl])
theorem U2 (w : World) (a k : Int) : (Instr.storeAt 30 (.pointer (some ⟨w.heap.size, 0, none⟩)) (.agg #[.int .u8 a, .int .u32 k, .int .u32 0, .slice none 0 0, .slice none 0 0, .int .u32 0, .slice none 0 0, .int .i64 0, .int .i64 0, .slice none 0 0])).run Tryd.prog (w.alloc (.cells #[.int .u8 0, .int .u32 0, .int .u32 0, .slice none 0 0, .slice none 0 0, .int .u32 0, .slice none 0 0, .int .i64 0, .int .i64 0, .slice none 0 0] 30)) = .ok () (w.alloc (.cells #[.int .u8 a, .int .u32 k, .int .u32 0, .slice none 0 0, .slice none 0 0, .int .u32 0, .slice none 0 0, .int .i64 0, .int .i64 0, .slice none 0 0] 30)) :=
  run_storeAt_new (P := Tryd.prog) w 30 #[.int .u8 0, .int .u32 0, .int .u32 0, .slice none 0 0, .slice none 0 0, .int .u32 0, .slice none 0 0, .int .i64 0, .int .i64 0, .slice none 0 0] #[.int .u8 a, .int .u32 k, .int .u32 0, .slice none 0 0, .slice none 0 0, .int .u32 0, .slice none 0 0, .int .i64 0, .int .i64 0, .slice none 0 0] (by kernel_rfl) rfl (by simp [Value.oneCell'])
theorem UB (w : World) (a k : Int) : (Instr.build 30 #[(0, .int .u8 a), (1, .int .u32 k)]).run Tryd.prog w = .ok (.agg #[.int .u8 a, .int .u32 k, .int .u32 0, .slice none 0 0, .slice none 0 0, .int .u32 0, .slice none 0 0, .int .i64 0, .int .i64 0, .slice none 0 0]) w := run_build w 30 _ _ (I7 a k)
attribute [-go_sem] Instr.build Instr.storeAt Instr.loadAt
attribute [local go_sem] UB U2
set_option maxRecDepth 20000 in
set_option maxHeartbeats 16000000 in
theorem Q9 (g : Nat) (l : List UInt8) (w0 w : World) (h : Rd w0 w g l) (hb : Below w0.heap.size w0 w) (hg : w0.heap.size ≤ g) (hm : (l.length : Int) ≤ 100000) :
    Calls Tryd.prog 97 #[.pointer (some ⟨g, 0, none⟩)] w (PP (recP l) (fun x v w' => RecV w.heap.size x v w') w0 w g) := by
  have HR := iC.mk h
  have HB := iC.mk hb
  have hlt := h.lt
  clear h hb
  obtain ⟨W, hW⟩ : ∃ W, W = w.alloc (Obj.cells #[.int .u8 0, .int .u32 0, .int .u32 0, .slice none 0 0, .slice none 0 0, .int .u32 0, .slice none 0 0, .int .i64 0, .int .i64 0, .slice none 0 0] 30) := ⟨_, rfl⟩
  have HW := iC.mk hW
  have HG := iC.mk (show w.grownBy W (some g) from by rw [hW]; exact grown_below (iF (Below.refl _ _) _))
  have HR1 := iC.mk (Rd.grown HR.out (row := none) (show w.grownBy W none from by rw [hW]; exact grown_below (iF (Below.refl _ _) _)) (by simp))
  have HB1 := iC.mk (below_grown HB.out HG.out hg (Nat.le_refl _))
  have HX := iC.mk (show W.heap[w.heap.size]? = some (.cells #[.int .u8 0, .int .u32 0, .int .u32 0, .slice none 0 0, .slice none 0 0, .int .u32 0, .slice none 0 0, .int .i64 0, .int .i64 0, .slice none 0 0] 30 (0, 0)) from by rw [hW]; exact iT rfl)
  have HG0 := iC.mk hg
  clear HR hW hg
  cases hp1 : intP 1 l with
  | none =>
    have hcall := jT 1 1 rfl g l w0 W HR1.out (kU hp1)
    have HN := iC.mk (rF hp1)
    clear hp1
    go_enter Tryd.func97, Tryd.ntmps97
    go_wp2_with fail
    rw [← HW.out]
    refine hcall.mono ?_
    rintro e w1 ⟨rfl, hG⟩
    go_wp2
    exact ⟨rfl, iR HG.out hG, .inr ⟨HN.out, rfl⟩⟩
  | some x =>
    obtain ⟨k, r1⟩ := x
    obtain ⟨m1, rfl, hm1, hl1, hcall1⟩ := pM 1 1 rfl (by omega) HR1.out HB1.out hp1
    have hmm1 : (m1 : Int) < 256 := by omega
    cases hp2 : intP 4 r1 with
    | none =>
      have HN := iC.mk (xQ hp1 hp2)
      clear hp1
      go_enter Tryd.func97, Tryd.ntmps97
      go_wp2_with fail
      rw [← HW.out]
      refine hcall1.mono ?_
      rintro e w1 ⟨rfl, hR, hG⟩
      go_wp2_with fail
      refine (jT 4 4 rfl g r1 w0 w1 hR (kU hp2)).mono ?_
      rintro e w2 ⟨rfl, hG2⟩
      clear hp2
      go_wp2
      exact ⟨rfl, iR (iR HG.out hG) hG2, .inr ⟨HN.out, rfl⟩⟩
    | some y =>
      obtain ⟨y, r2⟩ := y
      have HN := iC.mk (I5 hp1 hp2)
      clear hp1
      go_enter Tryd.func97, Tryd.ntmps97
      go_wp2_with fail
      rw [← HW.out]
      refine hcall1.mono ?_
      rintro e w1 ⟨rfl, hR, hG⟩
      obtain ⟨m2, rfl, hm2, hl2, hcall2⟩ := pM 4 4 rfl (by omega) hR (below_grown HB1.out hG HG0.out (Nat.le_refl _)) hp2
      have hmm2 : True → (m2 : Int) % 4294967296 = (m2 : Int) := fun _ => by omega
      have hr2 := iC.mk (show (r2.length : Int) ≤ 100000 from by omega)
      go_wp2_with fail
      refine hcall2.mono ?_
      rintro e w2 ⟨rfl, hR2, hG2⟩
      have HI := iC.mk (show RInv w0 w (w2.alloc (.cells #[.int .u8 (m1 : Int), .int .u32 (m2 : Int), .int .u32 0, .slice none 0 0, .slice none 0 0, .int .u32 0, .slice none 0 0, .int .i64 0, .int .i64 0, .slice none 0 0] 30)) g w2.heap.size r2 #[.int .u8 (m1 : Int), .int .u32 (m2 : Int), .int .u32 0, .slice none 0 0, .slice none 0 0, .int .u32 0, .slice none 0 0, .int .i64 0, .int .i64 0, .slice none 0 0] from by
        have hgt := iR (iR HG.out hG) hG2
        have hx2 := (hG2.block _ (Nat.lt_of_lt_of_le (iZ HX.out) hG.size) (fun e => by injection e with e; omega)).trans ((hG.block _ (iZ HX.out) (fun e => by injection e with e; omega)).trans HX.out)
        refine ⟨Rd.grown hR2 (row := none) (grown_below (iF (Below.refl _ _) _)) (by simp), iR hgt (grown_below (iF (Below.refl _ _) _)), below_grown (g := g) HB.out (iR hgt (grown_below (iF (Below.refl _ _) _))) HG0.out (Nat.le_refl _), iT rfl, ?_, hlt, iZ hx2, hr2.out, HG0.out⟩
        exact jG hx2)
      clear hp2 hcall1 hcall2 hR hG hR2 hG2 HW HR1 HB1 HG hm1 hm2 hm HX hl1 hl2 hr2 HB HG0 hlt
      have hfr := HI.out.fresh
      obtain ⟨b, hbd⟩ : ∃ b, b = w2.heap.size := ⟨_, rfl⟩
      have hld := fun (_ : True) => TZ HI.out.x
      clear hbd b hfr
      by_cases hk1 : (m1 : Int) = 1
      · have HBODY := iC.mk (show nO (m1 : Int) (m2 : Int) r2 = (mF r2).bind fun x => (lM x.2).bind fun y => some (⟨(m1 : Int), (m2 : Int), 0, x.1, y.1, ⟨0, []⟩, 0, 0, []⟩, y.2) from by unfold nO; rw [if_pos hk1])
        have hka : (m1 : Int) ≤ 1 := by omega
        have hkb : 1 ≤ (m1 : Int) := by omega
        clear hk1
        go_wp2_with fail
        cases hq0 : mF r2 with
        | none =>
          have hF : recP l = none := by rw [HN.out, HBODY.out]; rw [hq0]; rfl
          have HF := iC.mk hF
          refine (pO g r2 w0 _ HI.out.rd HI.out.bl HI.out.hg HI.out.small).mono ?_
          intro e wx hpp
          obtain ⟨rfl, hG⟩ := hpp.short hq0
          clear hpp
          clear hF hq0
          go_wp2
          exact ⟨rfl, iR HI.out.gr hG, .inr ⟨HF.out, rfl⟩⟩
        | some y =>
          obtain ⟨y0, s0⟩ := y
          have HQ0 := iC.mk hq0
          refine (pO g r2 w0 _ HI.out.rd HI.out.bl HI.out.hg HI.out.small).mono ?_
          intro e w3 hpp
          obtain ⟨v3, rfl, hv3, hR, hG⟩ := hpp.ok hq0
          have hv3 : Kd.R (Kd.int .i64) 3 _ _ _ _ _ := hv3
          obtain ⟨A3, d3, rfl⟩ := Kd.R_slice hv3
          have hl0 := uS _ _ _ hq0
          clear hpp
          have HC0 := iC.mk (HI.out.call hR hG (by omega))
          have HV3 := iC.mk hv3
          have HB3 := iC.mk HI.out.fresh
          clear hv3
          have HD0 := iC.mk (HC0.out.store #[.int .u8 (m1 : Int), .int .u32 (m2 : Int), .int .u32 0, .slice A3 y0.length d3, .slice none 0 0, .int .u32 0, .slice none 0 0, .int .i64 0, .int .i64 0, .slice none 0 0])
          have HV3 := iC.mk (jM HV3.out (jH _ w2.heap.size #[.int .u8 (m1 : Int), .int .u32 (m2 : Int), .int .u32 0, .slice A3 y0.length d3, .slice none 0 0, .int .u32 0, .slice none 0 0, .int .i64 0, .int .i64 0, .slice none 0 0]) HB3.out)
          have hst0 := fun (_ : True) => st_3 A3 y0.length d3 HC0.out.x
          clear hR hG hq0 hl0
          go_wp2_with fail
          cases hq1 : lM s0 with
          | none =>
            have hF : recP l = none := by rw [HN.out, HBODY.out]; rw [HQ0.out]; simp only [Option.bind_some]; rw [hq1]; rfl
            have HF := iC.mk hF
            refine (rP g s0 w0 _ HD0.out.rd HD0.out.bl HD0.out.hg HD0.out.small).mono ?_
            intro e wx hpp
            obtain ⟨rfl, hG⟩ := hpp.short hq1
            clear hpp
            clear hF hq1
            go_wp2
            exact ⟨rfl, iR HD0.out.gr hG, .inr ⟨HF.out, rfl⟩⟩
          | some y =>
            obtain ⟨y1, s1⟩ := y
            have HQ1 := iC.mk hq1
            have HO3 := iC.mk (Kd.R_lt HV3.out)
            refine (rP g s0 w0 _ HD0.out.rd HD0.out.bl HD0.out.hg HD0.out.small).mono ?_
            intro e w4 hpp
            obtain ⟨v4, rfl, hv4, hR, hG⟩ := hpp.ok hq1
            obtain ⟨A4, d4, rfl⟩ := Kd.R_slice hv4
            have hl1 := qE _ _ _ hq1
            clear hpp
            have HC1 := iC.mk (HD0.out.call hR hG (by omega))
            have HV3 := iC.mk (jM HV3.out hG (by have := HC1.out.lt; have := HC1.out.le; have := HB3.out; omega))
            have HV4 := iC.mk hv4
            have HB4 := iC.mk HD0.out.fresh
            clear hv4
            have HD1 := iC.mk (HC1.out.store #[.int .u8 (m1 : Int), .int .u32 (m2 : Int), .int .u32 0, .slice A3 y0.length d3, .slice A4 y1.length d4, .int .u32 0, .slice none 0 0, .int .i64 0, .int .i64 0, .slice none 0 0])
            have HV3 := iC.mk (jM HV3.out (jH _ w2.heap.size #[.int .u8 (m1 : Int), .int .u32 (m2 : Int), .int .u32 0, .slice A3 y0.length d3, .slice A4 y1.length d4, .int .u32 0, .slice none 0 0, .int .i64 0, .int .i64 0, .slice none 0 0]) HB3.out)
            have HV4 := iC.mk (jM HV4.out (jH _ w2.heap.size #[.int .u8 (m1 : Int), .int .u32 (m2 : Int), .int .u32 0, .slice A3 y0.length d3, .slice A4 y1.length d4, .int .u32 0, .slice none 0 0, .int .i64 0, .int .i64 0, .slice none 0 0]) HB4.out)
            have hst1 := fun (_ : True) => st_4 A4 y1.length d4 HC1.out.x
            clear hR hG hq1 hl1
            have hlr := fun (_ : True) => nU HD1.out.x rfl
            have hsr := fun (_ : True) => mG (a := (m1 : Int)) (k := (m2 : Int)) (i := 0) (x3 := .slice A3 y0.length d3) (x4 := .slice A4 y1.length d4) (j := 0) (x6 := .slice none 0 0) (p := 0) (q := 0) (x9 := .slice none 0 0) HD1.out.res rfl rfl rfl rfl
            have hlr2 := fun (_ : True) => nU (setRow_heap (w4.setRow w2.heap.size #[.int .u8 (m1 : Int), .int .u32 (m2 : Int), .int .u32 0, .slice A3 y0.length d3, .slice A4 y1.length d4, .int .u32 0, .slice none 0 0, .int .i64 0, .int .i64 0, .slice none 0 0]) w.heap.size #[.int .u8 0, .int .u32 0, .int .u32 0, .slice none 0 0, .slice none 0 0, .int .u32 0, .slice none 0 0, .int .i64 0, .int .i64 0, .slice none 0 0] #[.int .u8 (m1 : Int), .int .u32 (m2 : Int), .int .u32 0, .slice A3 y0.length d3, .slice A4 y1.length d4, .int .u32 0, .slice none 0 0, .int .i64 0, .int .i64 0, .slice none 0 0] _ _ HD1.out.res) rfl
            go_wp2_with fail
            (try simp only [Exit.inBlock, Exit.then])
            refine bodyPost_ret (results_cell_row rfl _ _ w.heap.size 30 #[.int .u8 (m1 : Int), .int .u32 (m2 : Int), .int .u32 0, .slice A3 y0.length d3, .slice A4 y1.length d4, .int .u32 0, .slice none 0 0, .int .i64 0, .int .i64 0, .slice none 0 0] (0, 0) _ (by rfl) (setRow_heap _ _ _ _ _ _ HD1.out.res) Tryd.underlying30 rfl rfl) rfl ?_
            obtain ⟨hf1, hf2⟩ := HD1.out.fin #[.int .u8 (m1 : Int), .int .u32 (m2 : Int), .int .u32 0, .slice A3 y0.length d3, .slice A4 y1.length d4, .int .u32 0, .slice none 0 0, .int .i64 0, .int .i64 0, .slice none 0 0]
            refine ⟨hf1, .inl ⟨⟨(m1 : Int), (m2 : Int), 0, y0, y1, ⟨0, []⟩, 0, 0, []⟩, s1, _, ?_, rfl, ⟨_, _, _, _, rfl, ?_, ?_, ?_, ?_⟩, hf2⟩⟩
            · rw [HN.out, HBODY.out]; rw [HQ0.out]; simp only [Option.bind_some]; rw [HQ1.out]; rfl
            · have hh := jM HV3.out (jH _ w.heap.size #[.int .u8 (m1 : Int), .int .u32 (m2 : Int), .int .u32 0, .slice A3 y0.length d3, .slice A4 y1.length d4, .int .u32 0, .slice none 0 0, .int .i64 0, .int .i64 0, .slice none 0 0]) (by have := HD1.out.le; have := HB3.out; omega)
              have hle := Nat.le_of_lt (Nat.lt_trans HD1.out.le HB3.out)
              exact Kd.R_lower hh hle
            · have hh := jM HV4.out (jH _ w.heap.size #[.int .u8 (m1 : Int), .int .u32 (m2 : Int), .int .u32 0, .slice A3 y0.length d3, .slice A4 y1.length d4, .int .u32 0, .slice none 0 0, .int .i64 0, .int .i64 0, .slice none 0 0]) (by have := HD1.out.le; have := HB4.out; omega)
              have hle := Nat.le_of_lt (Nat.lt_trans HD1.out.le HB4.out)
              refine Kd.R_lower (Kd.R_mono (Kd.R_bound hh) (ok' := fun k => some k ≠ Value.ownBlock (.slice A3 y0.length d3)) (fun k hk e => ?_)) hle
              have h1 := HO3.out k e.symm
              have h2 := hk.2.1
              omega
            · exact Kd.R_nil _ _ _ _ _
            · exact Kd.R_nil _ _ _ _ _
      by_cases hk2 : (m1 : Int) = 2
      · have HBODY := iC.mk (show nO (m1 : Int) (m2 : Int) r2 = (intP 4 r2).bind fun x => (mF x.2).bind fun y => some (⟨(m1 : Int), (m2 : Int), x.1, y.1, [], ⟨0, []⟩, 0, 0, []⟩, y.2) from by unfold nO; rw [if_neg hk1]; rw [if_pos hk2])
        have hka : (m1 : Int) ≤ 2 := by omega
        have hkb : 2 ≤ (m1 : Int) := by omega
        clear hk2
        go_wp2_with fail
        cases hq0 : intP 4 r2 with
        | none =>
          have hF : recP l = none := by rw [HN.out, HBODY.out]; rw [hq0]; rfl
          have HF := iC.mk hF
          refine (jT 4 4 rfl g r2 w0 _ HI.out.rd (kU hq0)).mono ?_
          rintro e wx ⟨rfl, hG⟩
          clear hF hq0
          go_wp2
          exact ⟨rfl, iR HI.out.gr hG, .inr ⟨HF.out, rfl⟩⟩
        | some y =>
          obtain ⟨y0, s0⟩ := y
          obtain ⟨n0, hy, hn0, hl0, hcall⟩ := pM 4 4 rfl (by omega) HI.out.rd HI.out.bl hq0
          subst hy
          have hnn0 : True → (n0 : Int) % 4294967296 = (n0 : Int) := fun _ => by omega
          have HQ0 := iC.mk hq0
          refine hcall.mono ?_
          rintro e w3 ⟨rfl, hR, hG⟩
          have HC0 := iC.mk (HI.out.call hR hG (by omega))
          have HD0 := iC.mk (HC0.out.store #[.int .u8 (m1 : Int), .int .u32 (m2 : Int), .int .u32 (n0 : Int), .slice none 0 0, .slice none 0 0, .int .u32 0, .slice none 0 0, .int .i64 0, .int .i64 0, .slice none 0 0])
          have hst0 := fun (_ : True) => st_2 (n0 : Int) HC0.out.x
          clear hR hG hq0 hl0 hn0 hcall
          go_wp2_with fail
          cases hq1 : mF s0 with
          | none =>
            have hF : recP l = none := by rw [HN.out, HBODY.out]; rw [HQ0.out]; simp only [Option.bind_some]; rw [hq1]; rfl
            have HF := iC.mk hF
            refine (pO g s0 w0 _ HD0.out.rd HD0.out.bl HD0.out.hg HD0.out.small).mono ?_
            intro e wx hpp
            obtain ⟨rfl, hG⟩ := hpp.short hq1
            clear hpp
            clear hF hq1
            go_wp2
            exact ⟨rfl, iR HD0.out.gr hG, .inr ⟨HF.out, rfl⟩⟩
          | some y =>
            obtain ⟨y1, s1⟩ := y
            have HQ1 := iC.mk hq1
            refine (pO g s0 w0 _ HD0.out.rd HD0.out.bl HD0.out.hg HD0.out.small).mono ?_
            intro e w4 hpp
            obtain ⟨v3, rfl, hv3, hR, hG⟩ := hpp.ok hq1
            have hv3 : Kd.R (Kd.int .i64) 3 _ _ _ _ _ := hv3
            obtain ⟨A3, d3, rfl⟩ := Kd.R_slice hv3
            have hl1 := uS _ _ _ hq1
            clear hpp
            have HC1 := iC.mk (HD0.out.call hR hG (by omega))
            have HV3 := iC.mk hv3
            have HB3 := iC.mk HD0.out.fresh
            clear hv3
            have HD1 := iC.mk (HC1.out.store #[.int .u8 (m1 : Int), .int .u32 (m2 : Int), .int .u32 (n0 : Int), .slice A3 y1.length d3, .slice none 0 0, .int .u32 0, .slice none 0 0, .int .i64 0, .int .i64 0, .slice none 0 0])
            have HV3 := iC.mk (jM HV3.out (jH _ w2.heap.size #[.int .u8 (m1 : Int), .int .u32 (m2 : Int), .int .u32 (n0 : Int), .slice A3 y1.length d3, .slice none 0 0, .int .u32 0, .slice none 0 0, .int .i64 0, .int .i64 0, .slice none 0 0]) HB3.out)
            have hst1 := fun (_ : True) => st_3 A3 y1.length d3 HC1.out.x
            clear hR hG hq1 hl1
            have hlr := fun (_ : True) => nU HD1.out.x rfl
            have hsr := fun (_ : True) => mG (a := (m1 : Int)) (k := (m2 : Int)) (i := (n0 : Int)) (x3 := .slice A3 y1.length d3) (x4 := .slice none 0 0) (j := 0) (x6 := .slice none 0 0) (p := 0) (q := 0) (x9 := .slice none 0 0) HD1.out.res rfl rfl rfl rfl
            have hlr2 := fun (_ : True) => nU (setRow_heap (w4.setRow w2.heap.size #[.int .u8 (m1 : Int), .int .u32 (m2 : Int), .int .u32 (n0 : Int), .slice A3 y1.length d3, .slice none 0 0, .int .u32 0, .slice none 0 0, .int .i64 0, .int .i64 0, .slice none 0 0]) w.heap.size #[.int .u8 0, .int .u32 0, .int .u32 0, .slice none 0 0, .slice none 0 0, .int .u32 0, .slice none 0 0, .int .i64 0, .int .i64 0, .slice none 0 0] #[.int .u8 (m1 : Int), .int .u32 (m2 : Int), .int .u32 (n0 : Int), .slice A3 y1.length d3, .slice none 0 0, .int .u32 0, .slice none 0 0, .int .i64 0, .int .i64 0, .slice none 0 0] _ _ HD1.out.res) rfl
            go_wp2_with fail
            (try simp only [Exit.inBlock, Exit.then])
            refine bodyPost_ret (results_cell_row rfl _ _ w.heap.size 30 #[.int .u8 (m1 : Int), .int .u32 (m2 : Int), .int .u32 (n0 : Int), .slice A3 y1.length d3, .slice none 0 0, .int .u32 0, .slice none 0 0, .int .i64 0, .int .i64 0, .slice none 0 0] (0, 0) _ (by rfl) (setRow_heap _ _ _ _ _ _ HD1.out.res) Tryd.underlying30 rfl rfl) rfl ?_
            obtain ⟨hf1, hf2⟩ := HD1.out.fin #[.int .u8 (m1 : Int), .int .u32 (m2 : Int), .int .u32 (n0 : Int), .slice A3 y1.length d3, .slice none 0 0, .int .u32 0, .slice none 0 0, .int .i64 0, .int .i64 0, .slice none 0 0]
            refine ⟨hf1, .inl ⟨⟨(m1 : Int), (m2 : Int), (n0 : Int), y1, [], ⟨0, []⟩, 0, 0, []⟩, s1, _, ?_, rfl, ⟨_, _, _, _, rfl, ?_, ?_, ?_, ?_⟩, hf2⟩⟩
            · rw [HN.out, HBODY.out]; rw [HQ0.out]; simp only [Option.bind_some]; rw [HQ1.out]; rfl
            · have hh := jM HV3.out (jH _ w.heap.size #[.int .u8 (m1 : Int), .int .u32 (m2 : Int), .int .u32 (n0 : Int), .slice A3 y1.length d3, .slice none 0 0, .int .u32 0, .slice none 0 0, .int .i64 0, .int .i64 0, .slice none 0 0]) (by have := HD1.out.le; have := HB3.out; omega)
              have hle := Nat.le_of_lt (Nat.lt_trans HD1.out.le HB3.out)
              exact Kd.R_lower hh hle
            · exact Kd.R_nil _ _ _ _ _
            · exact Kd.R_nil _ _ _ _ _
            · exact Kd.R_nil _ _ _ _ _
      by_cases hk6 : (m1 : Int) = 6
      · have HBODY := iC.mk (show nO (m1 : Int) (m2 : Int) r2 = (intP 4 r2).bind fun x => (oK x.2).bind fun y => some (⟨(m1 : Int), (m2 : Int), 0, [], [], ⟨x.1, y.1⟩, 0, 0, []⟩, y.2) from by unfold nO; rw [if_neg hk1]; rw [if_neg hk2]; rw [if_pos hk6])
        have hka : (m1 : Int) ≤ 6 := by omega
        have hkb : 6 ≤ (m1 : Int) := by omega
        clear hk6
        go_wp2_with fail
        cases hq0 : intP 4 r2 with
        | none =>
          have hF : recP l = none := by rw [HN.out, HBODY.out]; rw [hq0]; rfl
          have HF := iC.mk hF
          refine (jT 4 4 rfl g r2 w0 _ HI.out.rd (kU hq0)).mono ?_
          rintro e wx ⟨rfl, hG⟩
          clear hF hq0
          go_wp2
          exact ⟨rfl, iR HI.out.gr hG, .inr ⟨HF.out, rfl⟩⟩
        | some y =>
          obtain ⟨y0, s0⟩ := y
          obtain ⟨n0, hy, hn0, hl0, hcall⟩ := pM 4 4 rfl (by omega) HI.out.rd HI.out.bl hq0
          subst hy
          have hnn0 : True → (n0 : Int) % 4294967296 = (n0 : Int) := fun _ => by omega
          have HQ0 := iC.mk hq0
          refine hcall.mono ?_
          rintro e w3 ⟨rfl, hR, hG⟩
          have HC0 := iC.mk (HI.out.call hR hG (by omega))
          have HD0 := iC.mk (HC0.out.store #[.int .u8 (m1 : Int), .int .u32 (m2 : Int), .int .u32 0, .slice none 0 0, .slice none 0 0, .int .u32 (n0 : Int), .slice none 0 0, .int .i64 0, .int .i64 0, .slice none 0 0])
          have hst0 := fun (_ : True) => st_5 (n0 : Int) HC0.out.x
          clear hR hG hq0 hl0 hn0 hcall
          go_wp2_with fail
          cases hq1 : oK s0 with
          | none =>
            have hF : recP l = none := by rw [HN.out, HBODY.out]; rw [HQ0.out]; simp only [Option.bind_some]; rw [hq1]; rfl
            have HF := iC.mk hF
            refine (xK g s0 w0 _ HD0.out.rd HD0.out.bl HD0.out.hg HD0.out.small).mono ?_
            intro e wx hpp
            obtain ⟨rfl, hG⟩ := hpp.short hq1
            clear hpp
            clear hF hq1
            go_wp2
            exact ⟨rfl, iR HD0.out.gr hG, .inr ⟨HF.out, rfl⟩⟩
          | some y =>
            obtain ⟨y1, s1⟩ := y
            have HQ1 := iC.mk hq1
            refine (xK g s0 w0 _ HD0.out.rd HD0.out.bl HD0.out.hg HD0.out.small).mono ?_
            intro e w4 hpp
            obtain ⟨v6, rfl, hv6, hR, hG⟩ := hpp.ok hq1
            obtain ⟨A6, d6, rfl⟩ := Kd.R_slice hv6
            have hl1 := IZ _ _ _ hq1
            clear hpp
            have HC1 := iC.mk (HD0.out.call hR hG (by omega))
            have HV6 := iC.mk hv6
            have HB6 := iC.mk HD0.out.fresh
            clear hv6
            have HD1 := iC.mk (HC1.out.store #[.int .u8 (m1 : Int), .int .u32 (m2 : Int), .int .u32 0, .slice none 0 0, .slice none 0 0, .int .u32 (n0 : Int), .slice A6 y1.length d6, .int .i64 0, .int .i64 0, .slice none 0 0])
            have HV6 := iC.mk (jM HV6.out (jH _ w2.heap.size #[.int .u8 (m1 : Int), .int .u32 (m2 : Int), .int .u32 0, .slice none 0 0, .slice none 0 0, .int .u32 (n0 : Int), .slice A6 y1.length d6, .int .i64 0, .int .i64 0, .slice none 0 0]) HB6.out)
            have hst1 := fun (_ : True) => st_6 A6 y1.length d6 HC1.out.x
            clear hR hG hq1 hl1
            have hlr := fun (_ : True) => nU HD1.out.x rfl
            have hsr := fun (_ : True) => mG (a := (m1 : Int)) (k := (m2 : Int)) (i := 0) (x3 := .slice none 0 0) (x4 := .slice none 0 0) (j := (n0 : Int)) (x6 := .slice A6 y1.length d6) (p := 0) (q := 0) (x9 := .slice none 0 0) HD1.out.res rfl rfl rfl rfl
            have hlr2 := fun (_ : True) => nU (setRow_heap (w4.setRow w2.heap.size #[.int .u8 (m1 : Int), .int .u32 (m2 : Int), .int .u32 0, .slice none 0 0, .slice none 0 0, .int .u32 (n0 : Int), .slice A6 y1.length d6, .int .i64 0, .int .i64 0, .slice none 0 0]) w.heap.size #[.int .u8 0, .int .u32 0, .int .u32 0, .slice none 0 0, .slice none 0 0, .int .u32 0, .slice none 0 0, .int .i64 0, .int .i64 0, .slice none 0 0] #[.int .u8 (m1 : Int), .int .u32 (m2 : Int), .int .u32 0, .slice none 0 0, .slice none 0 0, .int .u32 (n0 : Int), .slice A6 y1.length d6, .int .i64 0, .int .i64 0, .slice none 0 0] _ _ HD1.out.res) rfl
            go_wp2_with fail
            (try simp only [Exit.inBlock, Exit.then])
            refine bodyPost_ret (results_cell_row rfl _ _ w.heap.size 30 #[.int .u8 (m1 : Int), .int .u32 (m2 : Int), .int .u32 0, .slice none 0 0, .slice none 0 0, .int .u32 (n0 : Int), .slice A6 y1.length d6, .int .i64 0, .int .i64 0, .slice none 0 0] (0, 0) _ (by rfl) (setRow_heap _ _ _ _ _ _ HD1.out.res) Tryd.underlying30 rfl rfl) rfl ?_
            obtain ⟨hf1, hf2⟩ := HD1.out.fin #[.int .u8 (m1 : Int), .int .u32 (m2 : Int), .int .u32 0, .slice none 0 0, .slice none 0 0, .int .u32 (n0 : Int), .slice A6 y1.length d6, .int .i64 0, .int .i64 0, .slice none 0 0]
            refine ⟨hf1, .inl ⟨⟨(m1 : Int), (m2 : Int), 0, [], [], ⟨(n0 : Int), y1⟩, 0, 0, []⟩, s1, _, ?_, rfl, ⟨_, _, _, _, rfl, ?_, ?_, ?_, ?_⟩, hf2⟩⟩
            · rw [HN.out, HBODY.out]; rw [HQ0.out]; simp only [Option.bind_some]; rw [HQ1.out]; rfl
            · exact Kd.R_nil _ _ _ _ _
            · exact Kd.R_nil _ _ _ _ _
            · have hh := jM HV6.out (jH _ w.heap.size #[.int .u8 (m1 : Int), .int .u32 (m2 : Int), .int .u32 0, .slice none 0 0, .slice none 0 0, .int .u32 (n0 : Int), .slice A6 y1.length d6, .int .i64 0, .int .i64 0, .slice none 0 0]) (by have := HD1.out.le; have := HB6.out; omega)
              have hle := Nat.le_of_lt (Nat.lt_trans HD1.out.le HB6.out)
              exact Kd.R_lower hh hle
            · exact Kd.R_nil _ _ _ _ _
      by_cases hk7 : (m1 : Int) = 7
      · have HBODY := iC.mk (show nO (m1 : Int) (m2 : Int) r2 = (intP 4 r2).bind fun x => (intP 4 x.2).bind fun y => (kL y.2).bind fun z => some (⟨(m1 : Int), (m2 : Int), 0, [], [], ⟨0, []⟩, x.1, y.1, z.1⟩, z.2) from by unfold nO; rw [if_neg hk1]; rw [if_neg hk2]; rw [if_neg hk6]; rw [if_pos hk7])
        have hka : (m1 : Int) ≤ 7 := by omega
        have hkb : 7 ≤ (m1 : Int) := by omega
        clear hk7
        go_wp2_with fail
        cases hq0 : intP 4 r2 with
        | none =>
          have hF : recP l = none := by rw [HN.out, HBODY.out]; rw [hq0]; rfl
          have HF := iC.mk hF
          refine (jT 4 4 rfl g r2 w0 _ HI.out.rd (kU hq0)).mono ?_
          rintro e wx ⟨rfl, hG⟩
          clear hF hq0
          go_wp2
          exact ⟨rfl, iR HI.out.gr hG, .inr ⟨HF.out, rfl⟩⟩
        | some y =>
          obtain ⟨y0, s0⟩ := y
          obtain ⟨n0, hy, hn0, hl0, hcall⟩ := pM 4 4 rfl (by omega) HI.out.rd HI.out.bl hq0
          subst hy
          have hnn0 : True → (n0 : Int) % 4294967296 = (n0 : Int) := fun _ => by omega
          have HQ0 := iC.mk hq0
          refine hcall.mono ?_
          rintro e w3 ⟨rfl, hR, hG⟩
          have hnw0 : True → wrap64 (n0 : Int) = (n0 : Int) := fun _ => pY n0 (by omega)
          have HC0 := iC.mk (HI.out.call hR hG (by omega))
          have HD0 := iC.mk (HC0.out.store #[.int .u8 (m1 : Int), .int .u32 (m2 : Int), .int .u32 0, .slice none 0 0, .slice none 0 0, .int .u32 0, .slice none 0 0, .int .i64 (n0 : Int), .int .i64 0, .slice none 0 0])
          have hst0 := fun (_ : True) => st_7 (n0 : Int) HC0.out.x
          clear hR hG hq0 hl0 hn0 hcall
          go_wp2_with fail
          cases hq1 : intP 4 s0 with
          | none =>
            have hF : recP l = none := by rw [HN.out, HBODY.out]; rw [HQ0.out]; simp only [Option.bind_some]; rw [hq1]; rfl
            have HF := iC.mk hF
            refine (jT 4 4 rfl g s0 w0 _ HD0.out.rd (kU hq1)).mono ?_
            rintro e wx ⟨rfl, hG⟩
            clear hF hq1
            go_wp2
            exact ⟨rfl, iR HD0.out.gr hG, .inr ⟨HF.out, rfl⟩⟩
          | some y =>
            obtain ⟨y1, s1⟩ := y
            obtain ⟨n1, hy, hn1, hl1, hcall⟩ := pM 4 4 rfl (by omega) HD0.out.rd HD0.out.bl hq1
            subst hy
            have hnn1 : True → (n1 : Int) % 4294967296 = (n1 : Int) := fun _ => by omega
            have HQ1 := iC.mk hq1
            refine hcall.mono ?_
            rintro e w4 ⟨rfl, hR, hG⟩
            have hnw1 : True → wrap64 (n1 : Int) = (n1 : Int) := fun _ => pY n1 (by omega)
            have HC1 := iC.mk (HD0.out.call hR hG (by omega))
            have HD1 := iC.mk (HC1.out.store #[.int .u8 (m1 : Int), .int .u32 (m2 : Int), .int .u32 0, .slice none 0 0, .slice none 0 0, .int .u32 0, .slice none 0 0, .int .i64 (n0 : Int), .int .i64 (n1 : Int), .slice none 0 0])
            have hst1 := fun (_ : True) => st_8 (n1 : Int) HC1.out.x
            clear hR hG hq1 hl1 hn1 hcall
            go_wp2_with fail
            cases hq2 : kL s1 with
            | none =>
              have hF : recP l = none := by rw [HN.out, HBODY.out]; rw [HQ0.out]; simp only [Option.bind_some]; rw [HQ1.out]; simp only [Option.bind_some]; rw [hq2]; rfl
              have HF := iC.mk hF
              refine (uJ g s1 w0 _ HD1.out.rd HD1.out.bl HD1.out.hg HD1.out.small).mono ?_
              intro e wx hpp
              obtain ⟨rfl, hG⟩ := hpp.short hq2
              clear hpp
              clear hF hq2
              go_wp2
              exact ⟨rfl, iR HD1.out.gr hG, .inr ⟨HF.out, rfl⟩⟩
            | some y =>
              obtain ⟨y2, s2⟩ := y
              have HQ2 := iC.mk hq2
              refine (uJ g s1 w0 _ HD1.out.rd HD1.out.bl HD1.out.hg HD1.out.small).mono ?_
              intro e w5 hpp
              obtain ⟨v9, rfl, hv9, hR, hG⟩ := hpp.ok hq2
              obtain ⟨A9, d9, rfl⟩ := Kd.R_slice hv9
              have hl2 := yT _ _ _ hq2
              clear hpp
              have HC2 := iC.mk (HD1.out.call hR hG (by omega))
              have HV9 := iC.mk hv9
              have HB9 := iC.mk HD1.out.fresh
              clear hv9
              have HD2 := iC.mk (HC2.out.store #[.int .u8 (m1 : Int), .int .u32 (m2 : Int), .int .u32 0, .slice none 0 0, .slice none 0 0, .int .u32 0, .slice none 0 0, .int .i64 (n0 : Int), .int .i64 (n1 : Int), .slice A9 y2.length d9])
              have HV9 := iC.mk (jM HV9.out (jH _ w2.heap.size #[.int .u8 (m1 : Int), .int .u32 (m2 : Int), .int .u32 0, .slice none 0 0, .slice none 0 0, .int .u32 0, .slice none 0 0, .int .i64 (n0 : Int), .int .i64 (n1 : Int), .slice A9 y2.length d9]) HB9.out)
              have hst2 := fun (_ : True) => st_9 A9 y2.length d9 HC2.out.x
              clear hR hG hq2 hl2
              have hlr := fun (_ : True) => nU HD2.out.x rfl
              have hsr := fun (_ : True) => mG (a := (m1 : Int)) (k := (m2 : Int)) (i := 0) (x3 := .slice none 0 0) (x4 := .slice none 0 0) (j := 0) (x6 := .slice none 0 0) (p := (n0 : Int)) (q := (n1 : Int)) (x9 := .slice A9 y2.length d9) HD2.out.res rfl rfl rfl rfl
              have hlr2 := fun (_ : True) => nU (setRow_heap (w5.setRow w2.heap.size #[.int .u8 (m1 : Int), .int .u32 (m2 : Int), .int .u32 0, .slice none 0 0, .slice none 0 0, .int .u32 0, .slice none 0 0, .int .i64 (n0 : Int), .int .i64 (n1 : Int), .slice A9 y2.length d9]) w.heap.size #[.int .u8 0, .int .u32 0, .int .u32 0, .slice none 0 0, .slice none 0 0, .int .u32 0, .slice none 0 0, .int .i64 0, .int .i64 0, .slice none 0 0] #[.int .u8 (m1 : Int), .int .u32 (m2 : Int), .int .u32 0, .slice none 0 0, .slice none 0 0, .int .u32 0, .slice none 0 0, .int .i64 (n0 : Int), .int .i64 (n1 : Int), .slice A9 y2.length d9] _ _ HD2.out.res) rfl
              go_wp2_with fail
              (try simp only [Exit.inBlock, Exit.then])
              refine bodyPost_ret (results_cell_row rfl _ _ w.heap.size 30 #[.int .u8 (m1 : Int), .int .u32 (m2 : Int), .int .u32 0, .slice none 0 0, .slice none 0 0, .int .u32 0, .slice none 0 0, .int .i64 (n0 : Int), .int .i64 (n1 : Int), .slice A9 y2.length d9] (0, 0) _ (by rfl) (setRow_heap _ _ _ _ _ _ HD2.out.res) Tryd.underlying30 rfl rfl) rfl ?_
              obtain ⟨hf1, hf2⟩ := HD2.out.fin #[.int .u8 (m1 : Int), .int .u32 (m2 : Int), .int .u32 0, .slice none 0 0, .slice none 0 0, .int .u32 0, .slice none 0 0, .int .i64 (n0 : Int), .int .i64 (n1 : Int), .slice A9 y2.length d9]
              refine ⟨hf1, .inl ⟨⟨(m1 : Int), (m2 : Int), 0, [], [], ⟨0, []⟩, (n0 : Int), (n1 : Int), y2⟩, s2, _, ?_, rfl, ⟨_, _, _, _, rfl, ?_, ?_, ?_, ?_⟩, hf2⟩⟩
              · rw [HN.out, HBODY.out]; rw [HQ0.out]; simp only [Option.bind_some]; rw [HQ1.out]; simp only [Option.bind_some]; rw [HQ2.out]; rfl
              · exact Kd.R_nil _ _ _ _ _
              · exact Kd.R_nil _ _ _ _ _
              · exact Kd.R_nil _ _ _ _ _
              · have hh := jM HV9.out (jH _ w.heap.size #[.int .u8 (m1 : Int), .int .u32 (m2 : Int), .int .u32 0, .slice none 0 0, .slice none 0 0, .int .u32 0, .slice none 0 0, .int .i64 (n0 : Int), .int .i64 (n1 : Int), .slice A9 y2.length d9]) (by have := HD2.out.le; have := HB9.out; omega)
                have hle := Nat.le_of_lt (Nat.lt_trans HD2.out.le HB9.out)
                exact Kd.R_lower (Kd.R_mono hh (fun k _ => ⟨fun e => by simp [Value.ownBlock] at e, fun e => by simp [Value.ownBlock] at e⟩)) hle
      have HBODY := iC.mk (show nO (m1 : Int) (m2 : Int) r2 = some (⟨(m1 : Int), (m2 : Int), 0, [], [], ⟨0, []⟩, 0, 0, []⟩, r2) from by unfold nO; rw [if_neg hk1, if_neg hk2, if_neg hk6, if_neg hk7])
      have hlr := fun (_ : True) => nU HI.out.x rfl
      have hsr := fun (_ : True) => mG (a := (m1 : Int)) (k := (m2 : Int)) (i := 0) (x3 := .slice none 0 0) (x4 := .slice none 0 0) (j := 0) (x6 := .slice none 0 0) (p := 0) (q := 0) (x9 := .slice none 0 0) HI.out.res rfl rfl rfl rfl
      have hlr2 := fun (_ : True) => nU (setRow_heap (w2.alloc (.cells #[.int .u8 (m1 : Int), .int .u32 (m2 : Int), .int .u32 0, .slice none 0 0, .slice none 0 0, .int .u32 0, .slice none 0 0, .int .i64 0, .int .i64 0, .slice none 0 0] 30)) w.heap.size #[.int .u8 0, .int .u32 0, .int .u32 0, .slice none 0 0, .slice none 0 0, .int .u32 0, .slice none 0 0, .int .i64 0, .int .i64 0, .slice none 0 0] #[.int .u8 (m1 : Int), .int .u32 (m2 : Int), .int .u32 0, .slice none 0 0, .slice none 0 0, .int .u32 0, .slice none 0 0, .int .i64 0, .int .i64 0, .slice none 0 0] _ _ HI.out.res) rfl
      go_wp2_with fail
      (try simp only [Exit.inBlock, Exit.then])
      refine bodyPost_ret (results_cell_row rfl _ _ w.heap.size 30 #[.int .u8 (m1 : Int), .int .u32 (m2 : Int), .int .u32 0, .slice none 0 0, .slice none 0 0, .int .u32 0, .slice none 0 0, .int .i64 0, .int .i64 0, .slice none 0 0] (0, 0) _ (by rfl) (setRow_heap _ _ _ _ _ _ HI.out.res) Tryd.underlying30 rfl rfl) rfl ?_
      obtain ⟨hf1, hf2⟩ := HI.out.fin #[.int .u8 (m1 : Int), .int .u32 (m2 : Int), .int .u32 0, .slice none 0 0, .slice none 0 0, .int .u32 0, .slice none 0 0, .int .i64 0, .int .i64 0, .slice none 0 0]
      refine ⟨hf1, .inl ⟨⟨(m1 : Int), (m2 : Int), 0, [], [], ⟨0, []⟩, 0, 0, []⟩, r2, _, ?_, rfl, ⟨_, _, _, _, rfl, ?_, ?_, ?_, ?_⟩, hf2⟩⟩
      · rw [HN.out, HBODY.out]; skip
      · exact Kd.R_nil _ _ _ _ _
      · exact Kd.R_nil _ _ _ _ _
      · exact Kd.R_nil _ _ _ _ _
      · exact Kd.R_nil _ _ _ _ _
end Go.Proofs.YtgfkgppomaapiaaDoor.K
end
