/- Parts of the proof, one behind the other: K34, K35, K36, K37, RefB, K38. -/
import Derived.Test.YtgfkgppomaapiaaDoorQCodeDecodes3
set_option linter.unusedVariables false
set_option linter.unusedSimpArgs false
section
namespace Go.Proofs.YtgfkgppomaapiaaDoor.K
open Go.RowKit Go.Proofs.YtgfkgppomaapiaaDoorW.PrintWords Go.Proofs.YtgfkgppomaapiaaDoorW.PrintLast Go.Proofs.YtgfkgppomaapiaaDoorW.PrintMore
def stratumref07_SoundNodes.l0 : Nat → List Int → Int → Option (Bool)
  | 0, _, _ => none
  | k + 1, x0, x3 => if x3 < (x0.length : Int) then (if 0 ≤ x3 then (if (rd x0 x3) < 0 then (some false) else (if (rd x0 x3) > 5 then (some false) else (if x3 > 0 then (if 0 ≤ (wrap64 (x3 - 1)) then (if (wrap64 (x3 - 1)) < (x0.length : Int) then (if (rd x0 x3) ≤ (rd x0 (wrap64 (x3 - 1))) then (some false) else (stratumref07_SoundNodes.l0 k x0 (wrap64 (x3 + 1)))) else (none)) else (none)) else (stratumref07_SoundNodes.l0 k x0 (wrap64 (x3 + 1)))))) else (none)) else (some true)
def stratumref07_SoundNodes.f (k : Nat) (l0 : List Int) : Option (Bool) := stratumref07_SoundNodes.l0 k l0 0
set_option maxHeartbeats 8000000 in
set_option maxRecDepth 100000 in
theorem stratumref07_SoundNodes.calls (k : Nat) (A0 : Option Addr) (c0 : Nat) (l0 : List Int) (r : Bool) (w : World) (hr0 : Kd.C (Kd.int .i64) w A0 l0.length l0) (hc0 : l0.length ≤ c0) (h : stratumref07_SoundNodes.f k l0 = some r) :
    Calls Tryd.prog 69 #[.slice A0 l0.length c0] w fun e w' => e = .returned (.bool r) ∧ iW w w' := by
  have HR0 := iC.mk hr0
  have HC0 := iC.mk hc0
  clear hr0 hc0
  have H : (stratumref07_SoundNodes.l0 k l0 0) = some r := h
  clear h
  have H' := iC.mk H
  clear H
  go_enter Tryd.func69, Tryd.ntmps69
  go_wp2
  repeat (go_quiet (fail); try go_wp2)
  go_loopg [3] k (fun kq v3 w' => ∃ (x3_1 : Int), v3 = .int .i64 x3_1 ∧ iC (stratumref07_SoundNodes.l0 kq l0 x3_1 = some r) ∧ iC (kq ≤ k) ∧ iW w w')
  case atStart => exact ⟨(0), (by first | rfl | (simp; done) | (simp [*]; done)), H', ⟨Nat.le_refl _⟩, by repeat (first | exact iW.refl _ | apply iW.step)⟩
  case round =>
    clear H'
    obtain ⟨x3_1, rfl, HA, HK1, ⟨m1, rfl⟩⟩ := hrel
    cases gk with
    | zero => exact absurd HA.out (by simp [stratumref07_SoundNodes.l0])
    | succ k1 =>
      have H := HA.out
      clear HA
      simp only [stratumref07_SoundNodes.l0] at H
      by_cases c2 : x3_1 < (l0.length : Int)
      · rw [if_pos c2] at H
        have c2b0 : decide (x3_1 < (l0.length : Int)) = true := decide_eq_true c2
        clear c2
        by_cases c3 : 0 ≤ x3_1
        · rw [if_pos c3] at H
          have c3b0 : decide (0 ≤ x3_1) = true := decide_eq_true c3
          clear c3
          by_cases c4 : (rd l0 x3_1) < 0
          · rw [if_pos c4] at H
            have c4b0 : decide ((rd l0 x3_1) < 0) = true := decide_eq_true c4
            clear c4
            obtain rfl := Option.some.inj H
            have p117 : 0 ≤ (x3_1 : Int) := of_decide_eq_true asm_
            have q117 : x3_1 < (l0.length : Int) := of_decide_eq_true asm_
            obtain ⟨ad117, e117, hx117_0⟩ := Kd.at_int HR0.out x3_1 p117 q117
            cases e117
            replace p117 := eq_true p117
            replace q117 := eq_true q117
            go_wp2
            repeat (go_quiet (fail); try go_wp2)
            go_ret
            exact ⟨by first | rfl | (simp; done) | (simp [*]; done), by repeat (first | exact iW.refl _ | apply iW.step)⟩
          · rw [if_neg c4] at H
            have c4b0 : decide ((rd l0 x3_1) < 0) = false := decide_eq_false c4
            clear c4
            by_cases c5 : (rd l0 x3_1) > 5
            · rw [if_pos c5] at H
              have c5b0 : decide (5 < (rd l0 x3_1)) = true := decide_eq_true c5
              clear c5
              obtain rfl := Option.some.inj H
              have p117 : 0 ≤ (x3_1 : Int) := of_decide_eq_true asm_
              have q117 : x3_1 < (l0.length : Int) := of_decide_eq_true asm_
              obtain ⟨ad117, e117, hx117_0⟩ := Kd.at_int HR0.out x3_1 p117 q117
              cases e117
              replace p117 := eq_true p117
              replace q117 := eq_true q117
              have p118 : 0 ≤ (x3_1 : Int) := of_decide_eq_true asm_
              have q118 : x3_1 < (l0.length : Int) := of_decide_eq_true asm_
              obtain ⟨ad118, e118, hx118_0⟩ := Kd.at_int HR0.out x3_1 p118 q118
              obtain rfl : ad117 = ad118 := (by injection e118)
              replace p118 := eq_true p118
              replace q118 := eq_true q118
              go_wp2
              repeat (go_quiet (fail); try go_wp2)
              go_ret
              exact ⟨by first | rfl | (simp; done) | (simp [*]; done), by repeat (first | exact iW.refl _ | apply iW.step)⟩
            · rw [if_neg c5] at H
              have c5b0 : decide (5 < (rd l0 x3_1)) = false := decide_eq_false c5
              clear c5
              by_cases c6 : x3_1 > 0
              · rw [if_pos c6] at H
                have c6b0 : decide (0 < x3_1) = true := decide_eq_true c6
                clear c6
                obtain ⟨ji7, hji7⟩ : ∃ j_ : Int, (wrap64 (x3_1 - 1)) = j_ := ⟨_, rfl⟩
                replace H : (if 0 ≤ (ji7) then (if (ji7) < (l0.length : Int) then (if (rd l0 x3_1) ≤ (rd l0 (ji7)) then (some false) else (stratumref07_SoundNodes.l0 k1 l0 (wrap64 (x3_1 + 1)))) else (none)) else (none)) = some r := by first | (rw [hji7] at H; exact H) | (simp only [hji7] at H ⊢; exact H)
                have hji7w : (IntKind.i64.wrap (x3_1 - 1)) = ji7 := (iY _).trans hji7
                by_cases c8 : 0 ≤ (ji7)
                · rw [if_pos c8] at H
                  have c8b0 : decide (0 ≤ (ji7)) = true := decide_eq_true c8
                  clear c8
                  by_cases c9 : (ji7) < (l0.length : Int)
                  · rw [if_pos c9] at H
                    have c9b0 : decide ((ji7) < (l0.length : Int)) = true := decide_eq_true c9
                    clear c9
                    by_cases c10 : (rd l0 x3_1) ≤ (rd l0 (ji7))
                    · rw [if_pos c10] at H
                      have c10b0 : decide ((rd l0 x3_1) ≤ (rd l0 (ji7))) = true := decide_eq_true c10
                      clear c10
                      obtain rfl := Option.some.inj H
                      have p117 : 0 ≤ (x3_1 : Int) := of_decide_eq_true asm_
                      have q117 : x3_1 < (l0.length : Int) := of_decide_eq_true asm_
                      obtain ⟨ad117, e117, hx117_0⟩ := Kd.at_int HR0.out x3_1 p117 q117
                      cases e117
                      replace p117 := eq_true p117
                      replace q117 := eq_true q117
                      have p118 : 0 ≤ (x3_1 : Int) := of_decide_eq_true asm_
                      have q118 : x3_1 < (l0.length : Int) := of_decide_eq_true asm_
                      obtain ⟨ad118, e118, hx118_0⟩ := Kd.at_int HR0.out x3_1 p118 q118
                      obtain rfl : ad117 = ad118 := (by injection e118)
                      replace p118 := eq_true p118
                      replace q118 := eq_true q118
                      have p119 : 0 ≤ (x3_1 : Int) := of_decide_eq_true asm_
                      have q119 : x3_1 < (l0.length : Int) := of_decide_eq_true asm_
                      obtain ⟨ad119, e119, hx119_0⟩ := Kd.at_int HR0.out x3_1 p119 q119
                      obtain rfl : ad117 = ad119 := (by injection e119)
                      replace p119 := eq_true p119
                      replace q119 := eq_true q119
                      have p120 : 0 ≤ ((ji7) : Int) := of_decide_eq_true asm_
                      have q120 : (ji7) < (l0.length : Int) := of_decide_eq_true asm_
                      obtain ⟨ad120, e120, hx120_0⟩ := Kd.at_int HR0.out (ji7) p120 q120
                      obtain rfl : ad117 = ad120 := (by injection e120)
                      replace p120 := eq_true p120
                      replace q120 := eq_true q120
                      go_wp2
                      repeat (go_quiet (fail); try go_wp2)
                      go_ret
                      exact ⟨by first | rfl | (simp; done) | (simp only [← hji7] <;> (first | rfl | simp)) | (simp [*]; done), by repeat (first | exact iW.refl _ | apply iW.step)⟩
                    · rw [if_neg c10] at H
                      have c10b0 : decide ((rd l0 x3_1) ≤ (rd l0 (ji7))) = false := decide_eq_false c10
                      clear c10
                      have H' := iC.mk H
                      clear H
                      have p117 : 0 ≤ (x3_1 : Int) := of_decide_eq_true asm_
                      have q117 : x3_1 < (l0.length : Int) := of_decide_eq_true asm_
                      obtain ⟨ad117, e117, hx117_0⟩ := Kd.at_int HR0.out x3_1 p117 q117
                      cases e117
                      replace p117 := eq_true p117
                      replace q117 := eq_true q117
                      have p118 : 0 ≤ (x3_1 : Int) := of_decide_eq_true asm_
                      have q118 : x3_1 < (l0.length : Int) := of_decide_eq_true asm_
                      obtain ⟨ad118, e118, hx118_0⟩ := Kd.at_int HR0.out x3_1 p118 q118
                      obtain rfl : ad117 = ad118 := (by injection e118)
                      replace p118 := eq_true p118
                      replace q118 := eq_true q118
                      have p119 : 0 ≤ (x3_1 : Int) := of_decide_eq_true asm_
                      have q119 : x3_1 < (l0.length : Int) := of_decide_eq_true asm_
                      obtain ⟨ad119, e119, hx119_0⟩ := Kd.at_int HR0.out x3_1 p119 q119
                      obtain rfl : ad117 = ad119 := (by injection e119)
                      replace p119 := eq_true p119
                      replace q119 := eq_true q119
                      have p120 : 0 ≤ ((ji7) : Int) := of_decide_eq_true asm_
                      have q120 : (ji7) < (l0.length : Int) := of_decide_eq_true asm_
                      obtain ⟨ad120, e120, hx120_0⟩ := Kd.at_int HR0.out (ji7) p120 q120
                      obtain rfl : ad117 = ad120 := (by injection e120)
                      replace p120 := eq_true p120
                      replace q120 := eq_true q120
                      go_wp2
                      repeat (go_quiet (fail); try go_wp2)
                      go_roundg k1
                      case measure => have := HK1.out; omega
                      case rel => exact ⟨(wrap64 (x3_1 + 1)), (by first | rfl | (simp; done) | (simp [*]; done)), H', ⟨by have := HK1.out; omega⟩, by repeat (first | exact iW.refl _ | apply iW.step)⟩
                  · rw [if_neg c9] at H
                    exact absurd H (by simp)
                · rw [if_neg c8] at H
                  exact absurd H (by simp)
              · rw [if_neg c6] at H
                have c6b0 : decide (0 < x3_1) = false := decide_eq_false c6
                clear c6
                have H' := iC.mk H
                clear H
                have p117 : 0 ≤ (x3_1 : Int) := of_decide_eq_true asm_
                have q117 : x3_1 < (l0.length : Int) := of_decide_eq_true asm_
                obtain ⟨ad117, e117, hx117_0⟩ := Kd.at_int HR0.out x3_1 p117 q117
                cases e117
                replace p117 := eq_true p117
                replace q117 := eq_true q117
                have p118 : 0 ≤ (x3_1 : Int) := of_decide_eq_true asm_
                have q118 : x3_1 < (l0.length : Int) := of_decide_eq_true asm_
                obtain ⟨ad118, e118, hx118_0⟩ := Kd.at_int HR0.out x3_1 p118 q118
                obtain rfl : ad117 = ad118 := (by injection e118)
                replace p118 := eq_true p118
                replace q118 := eq_true q118
                go_wp2
                repeat (go_quiet (fail); try go_wp2)
                go_roundg k1
                case measure => have := HK1.out; omega
                case rel => exact ⟨(wrap64 (x3_1 + 1)), (by first | rfl | (simp; done) | (simp [*]; done)), H', ⟨by have := HK1.out; omega⟩, by repeat (first | exact iW.refl _ | apply iW.step)⟩
        · rw [if_neg c3] at H
          exact absurd H (by simp)
      · rw [if_neg c2] at H
        have c2b0 : decide (x3_1 < (l0.length : Int)) = false := decide_eq_false c2
        clear c2
        obtain rfl := Option.some.inj H
        go_wp2
        repeat (go_quiet (fail); try go_wp2)
        go_ret
        exact ⟨by first | rfl | (simp; done) | (simp [*]; done), by repeat (first | exact iW.refl _ | apply iW.step)⟩
end Go.Proofs.YtgfkgppomaapiaaDoor.K
end

section
namespace Go.Proofs.YtgfkgppomaapiaaDoor.K
open Go.RowKit Go.Proofs.YtgfkgppomaapiaaDoorW.PrintWords Go.Proofs.YtgfkgppomaapiaaDoorW.PrintLast Go.Proofs.YtgfkgppomaapiaaDoorW.PrintMore
mutual
def stratumref07_SoundFacts.l0 : Nat → List (S139) → Int → Option (Bool)
  | 0, _, _ => none
  | k + 1, x0, x3 => if x3 < (x0.length : Int) then (stratumref07_SoundFacts.l1 k x0 x3 0) else (some (decide ((x0.length : Int) ≤ 200)))
def stratumref07_SoundFacts.l1 : Nat → List (S139) → Int → Int → Option (Bool)
  | 0, _, _, _ => none
  | k + 1, x0, x3, x4 => if 0 ≤ x3 then (if x3 < (x0.length : Int) then (if x4 < (((iV x0 x3).f0).length : Int) then (if 0 ≤ x4 then (if (rd ((iV x0 x3).f0) x4) < 0 then (some false) else (if (rd ((iV x0 x3).f0) x4) > 9999 then (some false) else (stratumref07_SoundFacts.l1 k x0 x3 (wrap64 (x4 + 1))))) else (none)) else (if (((iV x0 x3).f0).length : Int) > 4 then (some false) else (stratumref07_SoundFacts.l0 k x0 (wrap64 (x3 + 1))))) else (none)) else (none)
end
def stratumref07_SoundFacts.f (k : Nat) (l0 : List (S139)) : Option (Bool) := stratumref07_SoundFacts.l0 k l0 0
set_option maxHeartbeats 8000000 in
set_option maxRecDepth 100000 in
theorem stratumref07_SoundFacts.calls (k : Nat) (A0 : Option Addr) (c0 : Nat) (l0 : List (S139)) (r : Bool) (w : World) (hr0 : Kd.C k139 w A0 l0.length l0) (hc0 : l0.length ≤ c0) (h : stratumref07_SoundFacts.f k l0 = some r) :
    Calls Tryd.prog 70 #[.slice A0 l0.length c0] w fun e w' => e = .returned (.bool r) ∧ iW w w' := by
  have HR0 := iC.mk hr0
  have HC0 := iC.mk hc0
  clear hr0 hc0
  have H : (stratumref07_SoundFacts.l0 k l0 0) = some r := h
  clear h
  have H' := iC.mk H
  clear H
  go_enter Tryd.func70, Tryd.ntmps70
  go_wp2
  go_loopg [3] k (fun kq v3 w' => ∃ (x3_1 : Int), v3 = .int .i64 x3_1 ∧ iC (stratumref07_SoundFacts.l0 kq l0 x3_1 = some r) ∧ iC (kq ≤ k) ∧ iW w w')
  case atStart => exact ⟨(0), (by first | rfl | (simp; done) | (simp [*]; done)), H', ⟨Nat.le_refl _⟩, by repeat (first | exact iW.refl _ | apply iW.step)⟩
  case round =>
    clear H'
    obtain ⟨x3_1, rfl, HA, HK1, ⟨m1, rfl⟩⟩ := hrel
    cases gk with
    | zero => exact absurd HA.out (by simp [stratumref07_SoundFacts.l0])
    | succ k1 =>
      have H := HA.out
      clear HA
      simp only [stratumref07_SoundFacts.l0] at H
      by_cases c2 : x3_1 < (l0.length : Int)
      · rw [if_pos c2] at H
        have c2b0 : decide (x3_1 < (l0.length : Int)) = true := decide_eq_true c2
        clear c2
        have H' := iC.mk H
        clear H
        go_wp2
        go_loopg [4] k1 (fun kq v4 w' => ∃ (x4_2 : Int), v4 = .int .i64 x4_2 ∧ iC (stratumref07_SoundFacts.l1 kq l0 x3_1 x4_2 = some r) ∧ iC (kq ≤ k1) ∧ iW w w')
        case atStart => exact ⟨(0), (by first | rfl | (simp; done) | (simp [*]; done)), H', ⟨Nat.le_refl _⟩, by repeat (first | exact iW.refl _ | apply iW.step)⟩
        case round =>
          clear H'
          try clear c2
          try clear c2b0
          try clear p2
          obtain ⟨x4_2, rfl, HA, HK2, ⟨m2, rfl⟩⟩ := hrel
          cases gk with
          | zero => exact absurd HA.out (by simp [stratumref07_SoundFacts.l1])
          | succ k2 =>
            have H := HA.out
            clear HA
            simp only [stratumref07_SoundFacts.l1] at H
            by_cases c3 : 0 ≤ x3_1
            · rw [if_pos c3] at H
              have c3b0 : decide (0 ≤ x3_1) = true := decide_eq_true c3
              clear c3
              by_cases c4 : x3_1 < (l0.length : Int)
              · rw [if_pos c4] at H
                have c4b0 : decide (x3_1 < (l0.length : Int)) = true := decide_eq_true c4
                clear c4
                by_cases c5 : x4_2 < (((iV l0 x3_1).f0).length : Int)
                · rw [if_pos c5] at H
                  have c5b0 : decide (x4_2 < (((iV l0 x3_1).f0).length : Int)) = true := decide_eq_true c5
                  clear c5
                  by_cases c6 : 0 ≤ x4_2
                  · rw [if_pos c6] at H
                    have c6b0 : decide (0 ≤ x4_2) = true := decide_eq_true c6
                    clear c6
                    by_cases c7 : (rd ((iV l0 x3_1).f0) x4_2) < 0
                    · rw [if_pos c7] at H
                      have c7b0 : decide ((rd ((iV l0 x3_1).f0) x4_2) < 0) = true := decide_eq_true c7
                      clear c7
                      obtain rfl := Option.some.inj H
                      have p121 : 0 ≤ (x3_1 : Int) := of_decide_eq_true asm_
                      have q121 : x3_1 < (l0.length : Int) := of_decide_eq_true asm_
                      obtain ⟨ad121, A121_0, c121_0, e121, hx121_0, hx121_1, hl121_0, hi121_0⟩ := kN HR0.out x3_1 p121 q121
                      cases e121
                      have HR121_0 := iC.mk hi121_0
                      have HC121_0 := iC.mk hl121_0
                      clear hi121_0 hl121_0
                      replace p121 := eq_true p121
                      replace q121 := eq_true q121
                      have p122 : 0 ≤ (x3_1 : Int) := of_decide_eq_true asm_
                      have q122 : x3_1 < (l0.length : Int) := of_decide_eq_true asm_
                      obtain ⟨ad122, A122_0, c122_0, e122, hx122_0, hx122_1, hl122_0, hi122_0⟩ := kN HR0.out x3_1 p122 q122
                      obtain rfl : ad121 = ad122 := (by injection e122)
                      have HR122_0 := iC.mk hi122_0
                      have HC122_0 := iC.mk hl122_0
                      clear hi122_0 hl122_0
                      replace p122 := eq_true p122
                      replace q122 := eq_true q122
                      have ea_ := Option.some.inj (hx121_0.symm.trans hx122_0)
                      injection ea_ with ea_ en_ ec_
                      subst ea_
                      subst ec_
                      clear en_
                      have p123 : 0 ≤ (x4_2 : Int) := of_decide_eq_true asm_
                      have q123 : x4_2 < (((iV l0 x3_1).f0).length : Int) := of_decide_eq_true asm_
                      obtain ⟨ad123, e123, hx123_0⟩ := Kd.at_int HR122_0.out x4_2 p123 q123
                      cases e123
                      replace p123 := eq_true p123
                      replace q123 := eq_true q123
                      go_wp2
                      go_ret
                      exact ⟨by first | rfl | (simp; done) | (simp [*]; done), by repeat (first | exact iW.refl _ | apply iW.step)⟩
                    · rw [if_neg c7] at H
                      have c7b0 : decide ((rd ((iV l0 x3_1).f0) x4_2) < 0) = false := decide_eq_false c7
                      clear c7
                      by_cases c8 : (rd ((iV l0 x3_1).f0) x4_2) > 9999
                      · rw [if_pos c8] at H
                        have c8b0 : decide (9999 < (rd ((iV l0 x3_1).f0) x4_2)) = true := decide_eq_true c8
                        clear c8
                        obtain rfl := Option.some.inj H
                        have p121 : 0 ≤ (x3_1 : Int) := of_decide_eq_true asm_
                        have q121 : x3_1 < (l0.length : Int) := of_decide_eq_true asm_
                        obtain ⟨ad121, A121_0, c121_0, e121, hx121_0, hx121_1, hl121_0, hi121_0⟩ := kN HR0.out x3_1 p121 q121
                        cases e121
                        have HR121_0 := iC.mk hi121_0
                        have HC121_0 := iC.mk hl121_0
                        clear hi121_0 hl121_0
                        replace p121 := eq_true p121
                        replace q121 := eq_true q121
                        have p122 : 0 ≤ (x3_1 : Int) := of_decide_eq_true asm_
                        have q122 : x3_1 < (l0.length : Int) := of_decide_eq_true asm_
                        obtain ⟨ad122, A122_0, c122_0, e122, hx122_0, hx122_1, hl122_0, hi122_0⟩ := kN HR0.out x3_1 p122 q122
                        obtain rfl : ad121 = ad122 := (by injection e122)
                        have HR122_0 := iC.mk hi122_0
                        have HC122_0 := iC.mk hl122_0
                        clear hi122_0 hl122_0
                        replace p122 := eq_true p122
                        replace q122 := eq_true q122
                        have ea_ := Option.some.inj (hx121_0.symm.trans hx122_0)
                        injection ea_ with ea_ en_ ec_
                        subst ea_
                        subst ec_
                        clear en_
                        have p123 : 0 ≤ (x4_2 : Int) := of_decide_eq_true asm_
                        have q123 : x4_2 < (((iV l0 x3_1).f0).length : Int) := of_decide_eq_true asm_
                        obtain ⟨ad123, e123, hx123_0⟩ := Kd.at_int HR122_0.out x4_2 p123 q123
                        cases e123
                        replace p123 := eq_true p123
                        replace q123 := eq_true q123
                        have p124 : 0 ≤ (x3_1 : Int) := of_decide_eq_true asm_
                        have q124 : x3_1 < (l0.length : Int) := of_decide_eq_true asm_
                        obtain ⟨ad124, A124_0, c124_0, e124, hx124_0, hx124_1, hl124_0, hi124_0⟩ := kN HR0.out x3_1 p124 q124
                        obtain rfl : ad121 = ad124 := (by injection e124)
                        have HR124_0 := iC.mk hi124_0
                        have HC124_0 := iC.mk hl124_0
                        clear hi124_0 hl124_0
                        replace p124 := eq_true p124
                        replace q124 := eq_true q124
                        have ea_ := Option.some.inj (hx121_0.symm.trans hx124_0)
                        injection ea_ with ea_ en_ ec_
                        subst ea_
                        subst ec_
                        clear en_
                        have p125 : 0 ≤ (x4_2 : Int) := of_decide_eq_true asm_
                        have q125 : x4_2 < (((iV l0 x3_1).f0).length : Int) := of_decide_eq_true asm_
                        obtain ⟨ad125, e125, hx125_0⟩ := Kd.at_int HR124_0.out x4_2 p125 q125
                        cases e125
                        replace p125 := eq_true p125
                        replace q125 := eq_true q125
                        go_wp2
                        go_ret
                        exact ⟨by first | rfl | (simp; done) | (simp [*]; done), by repeat (first | exact iW.refl _ | apply iW.step)⟩
                      · rw [if_neg c8] at H
                        have c8b0 : decide (9999 < (rd ((iV l0 x3_1).f0) x4_2)) = false := decide_eq_false c8
                        clear c8
                        have H' := iC.mk H
                        clear H
                        have p121 : 0 ≤ (x3_1 : Int) := of_decide_eq_true asm_
                        have q121 : x3_1 < (l0.length : Int) := of_decide_eq_true asm_
                        obtain ⟨ad121, A121_0, c121_0, e121, hx121_0, hx121_1, hl121_0, hi121_0⟩ := kN HR0.out x3_1 p121 q121
                        cases e121
                        have HR121_0 := iC.mk hi121_0
                        have HC121_0 := iC.mk hl121_0
                        clear hi121_0 hl121_0
                        replace p121 := eq_true p121
                        replace q121 := eq_true q121
                        have p122 : 0 ≤ (x3_1 : Int) := of_decide_eq_true asm_
                        have q122 : x3_1 < (l0.length : Int) := of_decide_eq_true asm_
                        obtain ⟨ad122, A122_0, c122_0, e122, hx122_0, hx122_1, hl122_0, hi122_0⟩ := kN HR0.out x3_1 p122 q122
                        obtain rfl : ad121 = ad122 := (by injection e122)
                        have HR122_0 := iC.mk hi122_0
                        have HC122_0 := iC.mk hl122_0
                        clear hi122_0 hl122_0
                        replace p122 := eq_true p122
                        replace q122 := eq_true q122
                        have ea_ := Option.some.inj (hx121_0.symm.trans hx122_0)
                        injection ea_ with ea_ en_ ec_
                        subst ea_
                        subst ec_
                        clear en_
                        have p123 : 0 ≤ (x4_2 : Int) := of_decide_eq_true asm_
                        have q123 : x4_2 < (((iV l0 x3_1).f0).length : Int) := of_decide_eq_true asm_
                        obtain ⟨ad123, e123, hx123_0⟩ := Kd.at_int HR122_0.out x4_2 p123 q123
                        cases e123
                        replace p123 := eq_true p123
                        replace q123 := eq_true q123
                        have p124 : 0 ≤ (x3_1 : Int) := of_decide_eq_true asm_
                        have q124 : x3_1 < (l0.length : Int) := of_decide_eq_true asm_
                        obtain ⟨ad124, A124_0, c124_0, e124, hx124_0, hx124_1, hl124_0, hi124_0⟩ := kN HR0.out x3_1 p124 q124
                        obtain rfl : ad121 = ad124 := (by injection e124)
                        have HR124_0 := iC.mk hi124_0
                        have HC124_0 := iC.mk hl124_0
                        clear hi124_0 hl124_0
                        replace p124 := eq_true p124
                        replace q124 := eq_true q124
                        have ea_ := Option.some.inj (hx121_0.symm.trans hx124_0)
                        injection ea_ with ea_ en_ ec_
                        subst ea_
                        subst ec_
                        clear en_
                        have p125 : 0 ≤ (x4_2 : Int) := of_decide_eq_true asm_
                        have q125 : x4_2 < (((iV l0 x3_1).f0).length : Int) := of_decide_eq_true asm_
                        obtain ⟨ad125, e125, hx125_0⟩ := Kd.at_int HR124_0.out x4_2 p125 q125
                        cases e125
                        replace p125 := eq_true p125
                        replace q125 := eq_true q125
                        go_wp2
                        go_roundg k2
                        case measure => have := HK1.out; have := HK2.out; omega
                        case rel => exact ⟨(wrap64 (x4_2 + 1)), (by first | rfl | (simp; done) | (simp [*]; done)), H', ⟨by have := HK1.out; have := HK2.out; omega⟩, by repeat (first | exact iW.refl _ | apply iW.step)⟩
                  · rw [if_neg c6] at H
                    exact absurd H (by simp)
                · rw [if_neg c5] at H
                  have c5b0 : decide (x4_2 < (((iV l0 x3_1).f0).length : Int)) = false := decide_eq_false c5
                  clear c5
                  by_cases c9 : (((iV l0 x3_1).f0).length : Int) > 4
                  · rw [if_pos c9] at H
                    have c9b0 : decide (4 < (((iV l0 x3_1).f0).length : Int)) = true := decide_eq_true c9
                    have c9b1 : decide (4 < ((iV l0 x3_1).f0).length) = true := decide_eq_true (by omega)
                    clear c9
                    obtain rfl := Option.some.inj H
                    have p121 : 0 ≤ (x3_1 : Int) := of_decide_eq_true asm_
                    have q121 : x3_1 < (l0.length : Int) := of_decide_eq_true asm_
                    obtain ⟨ad121, A121_0, c121_0, e121, hx121_0, hx121_1, hl121_0, hi121_0⟩ := kN HR0.out x3_1 p121 q121
                    cases e121
                    have HR121_0 := iC.mk hi121_0
                    have HC121_0 := iC.mk hl121_0
                    clear hi121_0 hl121_0
                    replace p121 := eq_true p121
                    replace q121 := eq_true q121
                    have p126 : 0 ≤ (x3_1 : Int) := of_decide_eq_true asm_
                    have q126 : x3_1 < (l0.length : Int) := of_decide_eq_true asm_
                    obtain ⟨ad126, A126_0, c126_0, e126, hx126_0, hx126_1, hl126_0, hi126_0⟩ := kN HR0.out x3_1 p126 q126
                    obtain rfl : ad121 = ad126 := (by injection e126)
                    have HR126_0 := iC.mk hi126_0
                    have HC126_0 := iC.mk hl126_0
                    clear hi126_0 hl126_0
                    replace p126 := eq_true p126
                    replace q126 := eq_true q126
                    have ea_ := Option.some.inj (hx121_0.symm.trans hx126_0)
                    injection ea_ with ea_ en_ ec_
                    subst ea_
                    subst ec_
                    clear en_
                    go_wp2
                    go_ret
                    exact ⟨by first | rfl | (simp; done) | (simp [*]; done), by repeat (first | exact iW.refl _ | apply iW.step)⟩
                  · rw [if_neg c9] at H
                    have c9b0 : decide (4 < (((iV l0 x3_1).f0).length : Int)) = false := decide_eq_false c9
                    have c9b1 : decide (4 < ((iV l0 x3_1).f0).length) = false := decide_eq_false (by omega)
                    clear c9
                    have H' := iC.mk H
                    clear H
                    have p121 : 0 ≤ (x3_1 : Int) := of_decide_eq_true asm_
                    have q121 : x3_1 < (l0.length : Int) := of_decide_eq_true asm_
                    obtain ⟨ad121, A121_0, c121_0, e121, hx121_0, hx121_1, hl121_0, hi121_0⟩ := kN HR0.out x3_1 p121 q121
                    cases e121
                    have HR121_0 := iC.mk hi121_0
                    have HC121_0 := iC.mk hl121_0
                    clear hi121_0 hl121_0
                    replace p121 := eq_true p121
                    replace q121 := eq_true q121
                    have p126 : 0 ≤ (x3_1 : Int) := of_decide_eq_true asm_
                    have q126 : x3_1 < (l0.length : Int) := of_decide_eq_true asm_
                    obtain ⟨ad126, A126_0, c126_0, e126, hx126_0, hx126_1, hl126_0, hi126_0⟩ := kN HR0.out x3_1 p126 q126
                    obtain rfl : ad121 = ad126 := (by injection e126)
                    have HR126_0 := iC.mk hi126_0
                    have HC126_0 := iC.mk hl126_0
                    clear hi126_0 hl126_0
                    replace p126 := eq_true p126
                    replace q126 := eq_true q126
                    have ea_ := Option.some.inj (hx121_0.symm.trans hx126_0)
                    injection ea_ with ea_ en_ ec_
                    subst ea_
                    subst ec_
                    clear en_
                    go_wp2
                    go_roundg k2
                    case measure => have := HK1.out; have := HK2.out; omega
                    case rel => exact ⟨(wrap64 (x3_1 + 1)), (by first | rfl | (simp; done) | (simp [*]; done)), H', ⟨by have := HK1.out; have := HK2.out; omega⟩, by repeat (first | exact iW.refl _ | apply iW.step)⟩
              · rw [if_neg c4] at H
                exact absurd H (by simp)
            · rw [if_neg c3] at H
              exact absurd H (by simp)
      · rw [if_neg c2] at H
        have c2b0 : decide (x3_1 < (l0.length : Int)) = false := decide_eq_false c2
        clear c2
        obtain rfl := Option.some.inj H
        go_wp2
        go_ret
        exact ⟨by first | rfl | (simp; done) | (simp [*]; done), by repeat (first | exact iW.refl _ | apply iW.step)⟩
end Go.Proofs.YtgfkgppomaapiaaDoor.K
end

section
namespace Go.Proofs.YtgfkgppomaapiaaDoor.K
open Go.RowKit Go.Proofs.YtgfkgppomaapiaaDoorW.PrintWords Go.Proofs.YtgfkgppomaapiaaDoorW.PrintLast Go.Proofs.YtgfkgppomaapiaaDoorW.PrintMore
def stratumref07_spans.l0 : Nat → List (S98) → Int → Option (Bool)
  | 0, _, _ => none
  | k + 1, x0, x3 => if x3 < (x0.length : Int) then (if 0 ≤ x3 then (if ((jL x0 x3).f0) < 0 then (some false) else (if ((jL x0 x3).f0) > 9999 then (some false) else (if ((jL x0 x3).f1) < 0 then (some false) else (if ((jL x0 x3).f1) > 5 then (some false) else (stratumref07_spans.l0 k x0 (wrap64 (x3 + 1))))))) else (none)) else (some (decide ((x0.length : Int) ≤ 40)))
def stratumref07_spans.f (k : Nat) (l0 : List (S98)) : Option (Bool) := stratumref07_spans.l0 k l0 0
set_option maxHeartbeats 8000000 in
set_option maxRecDepth 100000 in
theorem stratumref07_spans.calls (k : Nat) (A0 : Option Addr) (c0 : Nat) (l0 : List (S98)) (r : Bool) (w : World) (hr0 : Kd.C k98 w A0 l0.length l0) (hc0 : l0.length ≤ c0) (h : stratumref07_spans.f k l0 = some r) :
    Calls Tryd.prog 71 #[.slice A0 l0.length c0] w fun e w' => e = .returned (.bool r) ∧ iW w w' := by
  have HR0 := iC.mk hr0
  have HC0 := iC.mk hc0
  clear hr0 hc0
  have H : (stratumref07_spans.l0 k l0 0) = some r := h
  clear h
  have H' := iC.mk H
  clear H
  go_enter Tryd.func71, Tryd.ntmps71
  go_wp2
  go_loopg [3] k (fun kq v3 w' => ∃ (x3_1 : Int), v3 = .int .i64 x3_1 ∧ iC (stratumref07_spans.l0 kq l0 x3_1 = some r) ∧ iC (kq ≤ k) ∧ iW w w')
  case atStart => exact ⟨(0), (by first | rfl | (simp; done) | (simp [*]; done)), H', ⟨Nat.le_refl _⟩, by repeat (first | exact iW.refl _ | apply iW.step)⟩
  case round =>
    clear H'
    obtain ⟨x3_1, rfl, HA, HK1, ⟨m1, rfl⟩⟩ := hrel
    cases gk with
    | zero => exact absurd HA.out (by simp [stratumref07_spans.l0])
    | succ k1 =>
      have H := HA.out
      clear HA
      simp only [stratumref07_spans.l0] at H
      by_cases c2 : x3_1 < (l0.length : Int)
      · rw [if_pos c2] at H
        have c2b0 : decide (x3_1 < (l0.length : Int)) = true := decide_eq_true c2
        clear c2
        by_cases c3 : 0 ≤ x3_1
        · rw [if_pos c3] at H
          have c3b0 : decide (0 ≤ x3_1) = true := decide_eq_true c3
          clear c3
          by_cases c4 : ((jL l0 x3_1).f0) < 0
          · rw [if_pos c4] at H
            have c4b0 : decide (((jL l0 x3_1).f0) < 0) = true := decide_eq_true c4
            clear c4
            obtain rfl := Option.some.inj H
            have p127 : 0 ≤ (x3_1 : Int) := of_decide_eq_true asm_
            have q127 : x3_1 < (l0.length : Int) := of_decide_eq_true asm_
            obtain ⟨ad127, e127, hx127_0, hx127_1⟩ := lI HR0.out x3_1 p127 q127
            cases e127
            replace p127 := eq_true p127
            replace q127 := eq_true q127
            go_wp2
            go_ret
            exact ⟨by first | rfl | (simp; done) | (simp [*]; done), by repeat (first | exact iW.refl _ | apply iW.step)⟩
          · rw [if_neg c4] at H
            have c4b0 : decide (((jL l0 x3_1).f0) < 0) = false := decide_eq_false c4
            clear c4
            by_cases c5 : ((jL l0 x3_1).f0) > 9999
            · rw [if_pos c5] at H
              have c5b0 : decide (9999 < ((jL l0 x3_1).f0)) = true := decide_eq_true c5
              clear c5
              obtain rfl := Option.some.inj H
              have p127 : 0 ≤ (x3_1 : Int) := of_decide_eq_true asm_
              have q127 : x3_1 < (l0.length : Int) := of_decide_eq_true asm_
              obtain ⟨ad127, e127, hx127_0, hx127_1⟩ := lI HR0.out x3_1 p127 q127
              cases e127
              replace p127 := eq_true p127
              replace q127 := eq_true q127
              have p128 : 0 ≤ (x3_1 : Int) := of_decide_eq_true asm_
              have q128 : x3_1 < (l0.length : Int) := of_decide_eq_true asm_
              obtain ⟨ad128, e128, hx128_0, hx128_1⟩ := lI HR0.out x3_1 p128 q128
              obtain rfl : ad127 = ad128 := (by injection e128)
              replace p128 := eq_true p128
              replace q128 := eq_true q128
              go_wp2
              go_ret
              exact ⟨by first | rfl | (simp; done) | (simp [*]; done), by repeat (first | exact iW.refl _ | apply iW.step)⟩
            · rw [if_neg c5] at H
              have c5b0 : decide (9999 < ((jL l0 x3_1).f0)) = false := decide_eq_false c5
              clear c5
              by_cases c6 : ((jL l0 x3_1).f1) < 0
              · rw [if_pos c6] at H
                have c6b0 : decide (((jL l0 x3_1).f1) < 0) = true := decide_eq_true c6
                clear c6
                obtain rfl := Option.some.inj H
                have p127 : 0 ≤ (x3_1 : Int) := of_decide_eq_true asm_
                have q127 : x3_1 < (l0.length : Int) := of_decide_eq_true asm_
                obtain ⟨ad127, e127, hx127_0, hx127_1⟩ := lI HR0.out x3_1 p127 q127
                cases e127
                replace p127 := eq_true p127
                replace q127 := eq_true q127
                have p128 : 0 ≤ (x3_1 : Int) := of_decide_eq_true asm_
                have q128 : x3_1 < (l0.length : Int) := of_decide_eq_true asm_
                obtain ⟨ad128, e128, hx128_0, hx128_1⟩ := lI HR0.out x3_1 p128 q128
                obtain rfl : ad127 = ad128 := (by injection e128)
                replace p128 := eq_true p128
                replace q128 := eq_true q128
                have p129 : 0 ≤ (x3_1 : Int) := of_decide_eq_true asm_
                have q129 : x3_1 < (l0.length : Int) := of_decide_eq_true asm_
                obtain ⟨ad129, e129, hx129_0, hx129_1⟩ := lI HR0.out x3_1 p129 q129
                obtain rfl : ad127 = ad129 := (by injection e129)
                replace p129 := eq_true p129
                replace q129 := eq_true q129
                go_wp2
                go_ret
                exact ⟨by first | rfl | (simp; done) | (simp [*]; done), by repeat (first | exact iW.refl _ | apply iW.step)⟩
              · rw [if_neg c6] at H
                have c6b0 : decide (((jL l0 x3_1).f1) < 0) = false := decide_eq_false c6
                clear c6
                by_cases c7 : ((jL l0 x3_1).f1) > 5
                · rw [if_pos c7] at H
                  have c7b0 : decide (5 < ((jL l0 x3_1).f1)) = true := decide_eq_true c7
                  clear c7
                  obtain rfl := Option.some.inj H
                  have p127 : 0 ≤ (x3_1 : Int) := of_decide_eq_true asm_
                  have q127 : x3_1 < (l0.length : Int) := of_decide_eq_true asm_
                  obtain ⟨ad127, e127, hx127_0, hx127_1⟩ := lI HR0.out x3_1 p127 q127
                  cases e127
                  replace p127 := eq_true p127
                  replace q127 := eq_true q127
                  have p128 : 0 ≤ (x3_1 : Int) := of_decide_eq_true asm_
                  have q128 : x3_1 < (l0.length : Int) := of_decide_eq_true asm_
                  obtain ⟨ad128, e128, hx128_0, hx128_1⟩ := lI HR0.out x3_1 p128 q128
                  obtain rfl : ad127 = ad128 := (by injection e128)
                  replace p128 := eq_true p128
                  replace q128 := eq_true q128
                  have p129 : 0 ≤ (x3_1 : Int) := of_decide_eq_true asm_
                  have q129 : x3_1 < (l0.length : Int) := of_decide_eq_true asm_
                  obtain ⟨ad129, e129, hx129_0, hx129_1⟩ := lI HR0.out x3_1 p129 q129
                  obtain rfl : ad127 = ad129 := (by injection e129)
                  replace p129 := eq_true p129
                  replace q129 := eq_true q129
                  have p130 : 0 ≤ (x3_1 : Int) := of_decide_eq_true asm_
                  have q130 : x3_1 < (l0.length : Int) := of_decide_eq_true asm_
                  obtain ⟨ad130, e130, hx130_0, hx130_1⟩ := lI HR0.out x3_1 p130 q130
                  obtain rfl : ad127 = ad130 := (by injection e130)
                  replace p130 := eq_true p130
                  replace q130 := eq_true q130
                  go_wp2
                  go_ret
                  exact ⟨by first | rfl | (simp; done) | (simp [*]; done), by repeat (first | exact iW.refl _ | apply iW.step)⟩
                · rw [if_neg c7] at H
                  have c7b0 : decide (5 < ((jL l0 x3_1).f1)) = false := decide_eq_false c7
                  clear c7
                  have H' := iC.mk H
                  clear H
                  have p127 : 0 ≤ (x3_1 : Int) := of_decide_eq_true asm_
                  have q127 : x3_1 < (l0.length : Int) := of_decide_eq_true asm_
                  obtain ⟨ad127, e127, hx127_0, hx127_1⟩ := lI HR0.out x3_1 p127 q127
                  cases e127
                  replace p127 := eq_true p127
                  replace q127 := eq_true q127
                  have p128 : 0 ≤ (x3_1 : Int) := of_decide_eq_true asm_
                  have q128 : x3_1 < (l0.length : Int) := of_decide_eq_true asm_
                  obtain ⟨ad128, e128, hx128_0, hx128_1⟩ := lI HR0.out x3_1 p128 q128
                  obtain rfl : ad127 = ad128 := (by injection e128)
                  replace p128 := eq_true p128
                  replace q128 := eq_true q128
                  have p129 : 0 ≤ (x3_1 : Int) := of_decide_eq_true asm_
                  have q129 : x3_1 < (l0.length : Int) := of_decide_eq_true asm_
                  obtain ⟨ad129, e129, hx129_0, hx129_1⟩ := lI HR0.out x3_1 p129 q129
                  obtain rfl : ad127 = ad129 := (by injection e129)
                  replace p129 := eq_true p129
                  replace q129 := eq_true q129
                  have p130 : 0 ≤ (x3_1 : Int) := of_decide_eq_true asm_
                  have q130 : x3_1 < (l0.length : Int) := of_decide_eq_true asm_
                  obtain ⟨ad130, e130, hx130_0, hx130_1⟩ := lI HR0.out x3_1 p130 q130
                  obtain rfl : ad127 = ad130 := (by injection e130)
                  replace p130 := eq_true p130
                  replace q130 := eq_true q130
                  go_wp2
                  go_roundg k1
                  case measure => have := HK1.out; omega
                  case rel => exact ⟨(wrap64 (x3_1 + 1)), (by first | rfl | (simp; done) | (simp [*]; done)), H', ⟨by have := HK1.out; omega⟩, by repeat (first | exact iW.refl _ | apply iW.step)⟩
        · rw [if_neg c3] at H
          exact absurd H (by simp)
      · rw [if_neg c2] at H
        have c2b0 : decide (x3_1 < (l0.length : Int)) = false := decide_eq_false c2
        clear c2
        obtain rfl := Option.some.inj H
        go_wp2
        go_ret
        exact ⟨by first | rfl | (simp; done) | (simp [*]; done), by repeat (first | exact iW.refl _ | apply iW.step)⟩
end Go.Proofs.YtgfkgppomaapiaaDoor.K
end

section
namespace Go.Proofs.YtgfkgppomaapiaaDoor.K
open Go.RowKit Go.Proofs.YtgfkgppomaapiaaDoorW.PrintWords Go.Proofs.YtgfkgppomaapiaaDoorW.PrintLast Go.Proofs.YtgfkgppomaapiaaDoorW.PrintMore
def stratumref07_SoundEntries.l0 : Nat → List (S86) → Int → Option (Bool)
  | 0, _, _ => none
  | k + 1, x0, x3 => if x3 < (x0.length : Int) then (if 0 ≤ x3 then ((stratumref07_SoundFacts.f k ((iP x0 x3).f1)).bind fun t132 => (if t132 = true then (if x3 > 0 then (if 0 ≤ (wrap64 (x3 - 1)) then (if (wrap64 (x3 - 1)) < (x0.length : Int) then (if ((iP x0 x3).f0) ≤ ((iP x0 (wrap64 (x3 - 1))).f0) then (some false) else (stratumref07_SoundEntries.l0 k x0 (wrap64 (x3 + 1)))) else (none)) else (none)) else (stratumref07_SoundEntries.l0 k x0 (wrap64 (x3 + 1)))) else (some false))) else (none)) else (some (decide ((x0.length : Int) ≤ 5000)))
def stratumref07_SoundEntries.f (k : Nat) (l0 : List (S86)) : Option (Bool) := stratumref07_SoundEntries.l0 k l0 0
set_option maxHeartbeats 8000000 in
set_option maxRecDepth 100000 in
theorem stratumref07_SoundEntries.calls (k : Nat) (A0 : Option Addr) (c0 : Nat) (l0 : List (S86)) (r : Bool) (w : World) (hr0 : Kd.C k86 w A0 l0.length l0) (hc0 : l0.length ≤ c0) (h : stratumref07_SoundEntries.f k l0 = some r) :
    Calls Tryd.prog 72 #[.slice A0 l0.length c0] w fun e w' => e = .returned (.bool r) ∧ iW w w' := by
  have HR0 := iC.mk hr0
  have HC0 := iC.mk hc0
  clear hr0 hc0
  have H : (stratumref07_SoundEntries.l0 k l0 0) = some r := h
  clear h
  have H' := iC.mk H
  clear H
  go_enter Tryd.func72, Tryd.ntmps72
  go_wp2
  repeat (go_quiet (fail); try go_wp2)
  go_loopg [3] k (fun kq v3 w' => ∃ (x3_1 : Int), v3 = .int .i64 x3_1 ∧ iC (stratumref07_SoundEntries.l0 kq l0 x3_1 = some r) ∧ iC (kq ≤ k) ∧ iW w w')
  case atStart => exact ⟨(0), (by first | rfl | (simp; done) | (simp [*]; done)), H', ⟨Nat.le_refl _⟩, by repeat (first | exact iW.refl _ | apply iW.step)⟩
  case round =>
    clear H'
    obtain ⟨x3_1, rfl, HA, HK1, ⟨m1, rfl⟩⟩ := hrel
    cases gk with
    | zero => exact absurd HA.out (by simp [stratumref07_SoundEntries.l0])
    | succ k1 =>
      have H := HA.out
      clear HA
      simp only [stratumref07_SoundEntries.l0] at H
      by_cases c2 : x3_1 < (l0.length : Int)
      · rw [if_pos c2] at H
        have c2b0 : decide (x3_1 < (l0.length : Int)) = true := decide_eq_true c2
        clear c2
        by_cases c3 : 0 ≤ x3_1
        · rw [if_pos c3] at H
          have c3b0 : decide (0 ≤ x3_1) = true := decide_eq_true c3
          clear c3
          replace H := Option.bind_eq_some_iff.mp H
          obtain ⟨t132, A40, H⟩ := H
          replace H : (if t132 = true then (if x3_1 > 0 then (if 0 ≤ (wrap64 (x3_1 - 1)) then (if (wrap64 (x3_1 - 1)) < (l0.length : Int) then (if ((iP l0 x3_1).f0) ≤ ((iP l0 (wrap64 (x3_1 - 1))).f0) then (some false) else (stratumref07_SoundEntries.l0 k1 l0 (wrap64 (x3_1 + 1)))) else (none)) else (none)) else (stratumref07_SoundEntries.l0 k1 l0 (wrap64 (x3_1 + 1)))) else (some false)) = some r := H
          have A4 := iC.mk A40
          clear A40
          by_cases c5 : t132 = true
          · subst c5
            have H1 : (if x3_1 > 0 then (if 0 ≤ (wrap64 (x3_1 - 1)) then (if (wrap64 (x3_1 - 1)) < (l0.length : Int) then (if ((iP l0 x3_1).f0) ≤ ((iP l0 (wrap64 (x3_1 - 1))).f0) then (some false) else (stratumref07_SoundEntries.l0 k1 l0 (wrap64 (x3_1 + 1)))) else (none)) else (none)) else (stratumref07_SoundEntries.l0 k1 l0 (wrap64 (x3_1 + 1)))) = some r := by rw [if_pos rfl] at H; exact H
            clear H
            have H := H1
            clear H1
            by_cases c6 : x3_1 > 0
            · rw [if_pos c6] at H
              have c6b0 : decide (0 < x3_1) = true := decide_eq_true c6
              clear c6
              obtain ⟨ji7, hji7⟩ : ∃ j_ : Int, (wrap64 (x3_1 - 1)) = j_ := ⟨_, rfl⟩
              replace H : (if 0 ≤ (ji7) then (if (ji7) < (l0.length : Int) then (if ((iP l0 x3_1).f0) ≤ ((iP l0 (ji7)).f0) then (some false) else (stratumref07_SoundEntries.l0 k1 l0 (wrap64 (x3_1 + 1)))) else (none)) else (none)) = some r := by first | (rw [hji7] at H; exact H) | (simp only [hji7] at H ⊢; exact H)
              (try rw [hji7] at A4)
              have hji7w : (IntKind.i64.wrap (x3_1 - 1)) = ji7 := (iY _).trans hji7
              by_cases c8 : 0 ≤ (ji7)
              · rw [if_pos c8] at H
                have c8b0 : decide (0 ≤ (ji7)) = true := decide_eq_true c8
                clear c8
                by_cases c9 : (ji7) < (l0.length : Int)
                · rw [if_pos c9] at H
                  have c9b0 : decide ((ji7) < (l0.length : Int)) = true := decide_eq_true c9
                  clear c9
                  by_cases c10 : ((iP l0 x3_1).f0) ≤ ((iP l0 (ji7)).f0)
                  · rw [if_pos c10] at H
                    have c10b0 : decide (((iP l0 x3_1).f0) ≤ ((iP l0 (ji7)).f0)) = true := decide_eq_true c10
                    clear c10
                    obtain rfl := Option.some.inj H
                    have p131 : 0 ≤ (x3_1 : Int) := of_decide_eq_true asm_
                    have q131 : x3_1 < (l0.length : Int) := of_decide_eq_true asm_
                    obtain ⟨ad131, A131_1, c131_1, e131, hx131_0, hx131_1, hl131_1, hi131_1⟩ := kV HR0.out x3_1 p131 q131
                    cases e131
                    have HR131_1 := iC.mk hi131_1
                    have HC131_1 := iC.mk hl131_1
                    clear hi131_1 hl131_1
                    replace p131 := eq_true p131
                    replace q131 := eq_true q131
                    go_wp2_with (first | (go_at_call 70; (with_reducible refine (stratumref07_SoundFacts.calls k1 _ _ ((iP l0 x3_1).f1) true _ ?side1 ?side2 A4.out).mono ?_); (case side1 => repeat (first | exact HR131_1.out | (with_reducible refine Kd.C_alloc ?_ _) | (with_reducible refine Kd.C_drewN ?_ _) | (with_reducible refine Kd.C_drew ?_))); (case side2 => exact HC131_1.out); rintro e w' ⟨rfl, ⟨nd, rfl⟩⟩; (try first | exact ⟨rfl, _, World.drewN_drewN _ _ _⟩ | exact ⟨rfl, _, Eq.trans (World.drewN_drewN _ _ _) (congrArg (World.drewN _) (Nat.add_assoc _ _ _))⟩); have p133 : 0 ≤ (x3_1 : Int) := of_decide_eq_true asm_; have q133 : x3_1 < (l0.length : Int) := of_decide_eq_true asm_; obtain ⟨ad133, A133_1, c133_1, e133, hx133_0, hx133_1, hl133_1, hi133_1⟩ := kV HR0.out x3_1 p133 q133; obtain rfl : ad131 = ad133 := (by injection e133); have HR133_1 := iC.mk hi133_1; have HC133_1 := iC.mk hl133_1; clear hi133_1 hl133_1; replace p133 := eq_true p133; replace q133 := eq_true q133; have ea_ := Option.some.inj (hx131_1.symm.trans hx133_1); injection ea_ with ea_ en_ ec_; subst ea_; subst ec_; clear en_; have p134 : 0 ≤ ((ji7) : Int) := of_decide_eq_true asm_; have q134 : (ji7) < (l0.length : Int) := of_decide_eq_true asm_; obtain ⟨ad134, A134_1, c134_1, e134, hx134_0, hx134_1, hl134_1, hi134_1⟩ := kV HR0.out (ji7) p134 q134; obtain rfl : ad131 = ad134 := (by injection e134); have HR134_1 := iC.mk hi134_1; have HC134_1 := iC.mk hl134_1; clear hi134_1 hl134_1; replace p134 := eq_true p134; replace q134 := eq_true q134))
                    repeat (go_quiet (first | (go_at_call 70; (with_reducible refine (stratumref07_SoundFacts.calls k1 _ _ ((iP l0 x3_1).f1) true _ ?side1 ?side2 A4.out).mono ?_); (case side1 => repeat (first | exact HR131_1.out | (with_reducible refine Kd.C_alloc ?_ _) | (with_reducible refine Kd.C_drewN ?_ _) | (with_reducible refine Kd.C_drew ?_))); (case side2 => exact HC131_1.out); rintro e w' ⟨rfl, ⟨nd, rfl⟩⟩; (try first | exact ⟨rfl, _, World.drewN_drewN _ _ _⟩ | exact ⟨rfl, _, Eq.trans (World.drewN_drewN _ _ _) (congrArg (World.drewN _) (Nat.add_assoc _ _ _))⟩); have p133 : 0 ≤ (x3_1 : Int) := of_decide_eq_true asm_; have q133 : x3_1 < (l0.length : Int) := of_decide_eq_true asm_; obtain ⟨ad133, A133_1, c133_1, e133, hx133_0, hx133_1, hl133_1, hi133_1⟩ := kV HR0.out x3_1 p133 q133; obtain rfl : ad131 = ad133 := (by injection e133); have HR133_1 := iC.mk hi133_1; have HC133_1 := iC.mk hl133_1; clear hi133_1 hl133_1; replace p133 := eq_true p133; replace q133 := eq_true q133; have ea_ := Option.some.inj (hx131_1.symm.trans hx133_1); injection ea_ with ea_ en_ ec_; subst ea_; subst ec_; clear en_; have p134 : 0 ≤ ((ji7) : Int) := of_decide_eq_true asm_; have q134 : (ji7) < (l0.length : Int) := of_decide_eq_true asm_; obtain ⟨ad134, A134_1, c134_1, e134, hx134_0, hx134_1, hl134_1, hi134_1⟩ := kV HR0.out (ji7) p134 q134; obtain rfl : ad131 = ad134 := (by injection e134); have HR134_1 := iC.mk hi134_1; have HC134_1 := iC.mk hl134_1; clear hi134_1 hl134_1; replace p134 := eq_true p134; replace q134 := eq_true q134)); try go_wp2_with (first | (go_at_call 70; (with_reducible refine (stratumref07_SoundFacts.calls k1 _ _ ((iP l0 x3_1).f1) true _ ?side1 ?side2 A4.out).mono ?_); (case side1 => repeat (first | exact HR131_1.out | (with_reducible refine Kd.C_alloc ?_ _) | (with_reducible refine Kd.C_drewN ?_ _) | (with_reducible refine Kd.C_drew ?_))); (case side2 => exact HC131_1.out); rintro e w' ⟨rfl, ⟨nd, rfl⟩⟩; (try first | exact ⟨rfl, _, World.drewN_drewN _ _ _⟩ | exact ⟨rfl, _, Eq.trans (World.drewN_drewN _ _ _) (congrArg (World.drewN _) (Nat.add_assoc _ _ _))⟩); have p133 : 0 ≤ (x3_1 : Int) := of_decide_eq_true asm_; have q133 : x3_1 < (l0.length : Int) := of_decide_eq_true asm_; obtain ⟨ad133, A133_1, c133_1, e133, hx133_0, hx133_1, hl133_1, hi133_1⟩ := kV HR0.out x3_1 p133 q133; obtain rfl : ad131 = ad133 := (by injection e133); have HR133_1 := iC.mk hi133_1; have HC133_1 := iC.mk hl133_1; clear hi133_1 hl133_1; replace p133 := eq_true p133; replace q133 := eq_true q133; have ea_ := Option.some.inj (hx131_1.symm.trans hx133_1); injection ea_ with ea_ en_ ec_; subst ea_; subst ec_; clear en_; have p134 : 0 ≤ ((ji7) : Int) := of_decide_eq_true asm_; have q134 : (ji7) < (l0.length : Int) := of_decide_eq_true asm_; obtain ⟨ad134, A134_1, c134_1, e134, hx134_0, hx134_1, hl134_1, hi134_1⟩ := kV HR0.out (ji7) p134 q134; obtain rfl : ad131 = ad134 := (by injection e134); have HR134_1 := iC.mk hi134_1; have HC134_1 := iC.mk hl134_1; clear hi134_1 hl134_1; replace p134 := eq_true p134; replace q134 := eq_true q134)))
                    go_ret
                    exact ⟨by first | rfl | (simp; done) | (simp only [← hji7] <;> (first | rfl | simp)) | (simp [*]; done), by repeat (first | exact iW.refl _ | apply iW.step)⟩
                  · rw [if_neg c10] at H
                    have c10b0 : decide (((iP l0 x3_1).f0) ≤ ((iP l0 (ji7)).f0)) = false := decide_eq_false c10
                    clear c10
                    have H' := iC.mk H
                    clear H
                    have p131 : 0 ≤ (x3_1 : Int) := of_decide_eq_true asm_
                    have q131 : x3_1 < (l0.length : Int) := of_decide_eq_true asm_
                    obtain ⟨ad131, A131_1, c131_1, e131, hx131_0, hx131_1, hl131_1, hi131_1⟩ := kV HR0.out x3_1 p131 q131
                    cases e131
                    have HR131_1 := iC.mk hi131_1
                    have HC131_1 := iC.mk hl131_1
                    clear hi131_1 hl131_1
                    replace p131 := eq_true p131
                    replace q131 := eq_true q131
                    go_wp2_with (first | (go_at_call 70; (with_reducible refine (stratumref07_SoundFacts.calls k1 _ _ ((iP l0 x3_1).f1) true _ ?side1 ?side2 A4.out).mono ?_); (case side1 => repeat (first | exact HR131_1.out | (with_reducible refine Kd.C_alloc ?_ _) | (with_reducible refine Kd.C_drewN ?_ _) | (with_reducible refine Kd.C_drew ?_))); (case side2 => exact HC131_1.out); rintro e w' ⟨rfl, ⟨nd, rfl⟩⟩; (try first | exact ⟨rfl, _, World.drewN_drewN _ _ _⟩ | exact ⟨rfl, _, Eq.trans (World.drewN_drewN _ _ _) (congrArg (World.drewN _) (Nat.add_assoc _ _ _))⟩); have p133 : 0 ≤ (x3_1 : Int) := of_decide_eq_true asm_; have q133 : x3_1 < (l0.length : Int) := of_decide_eq_true asm_; obtain ⟨ad133, A133_1, c133_1, e133, hx133_0, hx133_1, hl133_1, hi133_1⟩ := kV HR0.out x3_1 p133 q133; obtain rfl : ad131 = ad133 := (by injection e133); have HR133_1 := iC.mk hi133_1; have HC133_1 := iC.mk hl133_1; clear hi133_1 hl133_1; replace p133 := eq_true p133; replace q133 := eq_true q133; have ea_ := Option.some.inj (hx131_1.symm.trans hx133_1); injection ea_ with ea_ en_ ec_; subst ea_; subst ec_; clear en_; have p134 : 0 ≤ ((ji7) : Int) := of_decide_eq_true asm_; have q134 : (ji7) < (l0.length : Int) := of_decide_eq_true asm_; obtain ⟨ad134, A134_1, c134_1, e134, hx134_0, hx134_1, hl134_1, hi134_1⟩ := kV HR0.out (ji7) p134 q134; obtain rfl : ad131 = ad134 := (by injection e134); have HR134_1 := iC.mk hi134_1; have HC134_1 := iC.mk hl134_1; clear hi134_1 hl134_1; replace p134 := eq_true p134; replace q134 := eq_true q134))
                    repeat (go_quiet (first | (go_at_call 70; (with_reducible refine (stratumref07_SoundFacts.calls k1 _ _ ((iP l0 x3_1).f1) true _ ?side1 ?side2 A4.out).mono ?_); (case side1 => repeat (first | exact HR131_1.out | (with_reducible refine Kd.C_alloc ?_ _) | (with_reducible refine Kd.C_drewN ?_ _) | (with_reducible refine Kd.C_drew ?_))); (case side2 => exact HC131_1.out); rintro e w' ⟨rfl, ⟨nd, rfl⟩⟩; (try first | exact ⟨rfl, _, World.drewN_drewN _ _ _⟩ | exact ⟨rfl, _, Eq.trans (World.drewN_drewN _ _ _) (congrArg (World.drewN _) (Nat.add_assoc _ _ _))⟩); have p133 : 0 ≤ (x3_1 : Int) := of_decide_eq_true asm_; have q133 : x3_1 < (l0.length : Int) := of_decide_eq_true asm_; obtain ⟨ad133, A133_1, c133_1, e133, hx133_0, hx133_1, hl133_1, hi133_1⟩ := kV HR0.out x3_1 p133 q133; obtain rfl : ad131 = ad133 := (by injection e133); have HR133_1 := iC.mk hi133_1; have HC133_1 := iC.mk hl133_1; clear hi133_1 hl133_1; replace p133 := eq_true p133; replace q133 := eq_true q133; have ea_ := Option.some.inj (hx131_1.symm.trans hx133_1); injection ea_ with ea_ en_ ec_; subst ea_; subst ec_; clear en_; have p134 : 0 ≤ ((ji7) : Int) := of_decide_eq_true asm_; have q134 : (ji7) < (l0.length : Int) := of_decide_eq_true asm_; obtain ⟨ad134, A134_1, c134_1, e134, hx134_0, hx134_1, hl134_1, hi134_1⟩ := kV HR0.out (ji7) p134 q134; obtain rfl : ad131 = ad134 := (by injection e134); have HR134_1 := iC.mk hi134_1; have HC134_1 := iC.mk hl134_1; clear hi134_1 hl134_1; replace p134 := eq_true p134; replace q134 := eq_true q134)); try go_wp2_with (first | (go_at_call 70; (with_reducible refine (stratumref07_SoundFacts.calls k1 _ _ ((iP l0 x3_1).f1) true _ ?side1 ?side2 A4.out).mono ?_); (case side1 => repeat (first | exact HR131_1.out | (with_reducible refine Kd.C_alloc ?_ _) | (with_reducible refine Kd.C_drewN ?_ _) | (with_reducible refine Kd.C_drew ?_))); (case side2 => exact HC131_1.out); rintro e w' ⟨rfl, ⟨nd, rfl⟩⟩; (try first | exact ⟨rfl, _, World.drewN_drewN _ _ _⟩ | exact ⟨rfl, _, Eq.trans (World.drewN_drewN _ _ _) (congrArg (World.drewN _) (Nat.add_assoc _ _ _))⟩); have p133 : 0 ≤ (x3_1 : Int) := of_decide_eq_true asm_; have q133 : x3_1 < (l0.length : Int) := of_decide_eq_true asm_; obtain ⟨ad133, A133_1, c133_1, e133, hx133_0, hx133_1, hl133_1, hi133_1⟩ := kV HR0.out x3_1 p133 q133; obtain rfl : ad131 = ad133 := (by injection e133); have HR133_1 := iC.mk hi133_1; have HC133_1 := iC.mk hl133_1; clear hi133_1 hl133_1; replace p133 := eq_true p133; replace q133 := eq_true q133; have ea_ := Option.some.inj (hx131_1.symm.trans hx133_1); injection ea_ with ea_ en_ ec_; subst ea_; subst ec_; clear en_; have p134 : 0 ≤ ((ji7) : Int) := of_decide_eq_true asm_; have q134 : (ji7) < (l0.length : Int) := of_decide_eq_true asm_; obtain ⟨ad134, A134_1, c134_1, e134, hx134_0, hx134_1, hl134_1, hi134_1⟩ := kV HR0.out (ji7) p134 q134; obtain rfl : ad131 = ad134 := (by injection e134); have HR134_1 := iC.mk hi134_1; have HC134_1 := iC.mk hl134_1; clear hi134_1 hl134_1; replace p134 := eq_true p134; replace q134 := eq_true q134)))
                    go_roundg k1
                    case measure => have := HK1.out; omega
                    case rel => exact ⟨(wrap64 (x3_1 + 1)), (by first | rfl | (simp; done) | (simp [*]; done)), H', ⟨by have := HK1.out; omega⟩, by repeat (first | exact iW.refl _ | apply iW.step)⟩
                · rw [if_neg c9] at H
                  exact absurd H (by simp)
              · rw [if_neg c8] at H
                exact absurd H (by simp)
            · rw [if_neg c6] at H
              have c6b0 : decide (0 < x3_1) = false := decide_eq_false c6
              clear c6
              have H' := iC.mk H
              clear H
              have p131 : 0 ≤ (x3_1 : Int) := of_decide_eq_true asm_
              have q131 : x3_1 < (l0.length : Int) := of_decide_eq_true asm_
              obtain ⟨ad131, A131_1, c131_1, e131, hx131_0, hx131_1, hl131_1, hi131_1⟩ := kV HR0.out x3_1 p131 q131
              cases e131
              have HR131_1 := iC.mk hi131_1
              have HC131_1 := iC.mk hl131_1
              clear hi131_1 hl131_1
              replace p131 := eq_true p131
              replace q131 := eq_true q131
              go_wp2_with (first | (go_at_call 70; (with_reducible refine (stratumref07_SoundFacts.calls k1 _ _ ((iP l0 x3_1).f1) true _ ?side1 ?side2 A4.out).mono ?_); (case side1 => repeat (first | exact HR131_1.out | (with_reducible refine Kd.C_alloc ?_ _) | (with_reducible refine Kd.C_drewN ?_ _) | (with_reducible refine Kd.C_drew ?_))); (case side2 => exact HC131_1.out); rintro e w' ⟨rfl, ⟨nd, rfl⟩⟩; (try first | exact ⟨rfl, _, World.drewN_drewN _ _ _⟩ | exact ⟨rfl, _, Eq.trans (World.drewN_drewN _ _ _) (congrArg (World.drewN _) (Nat.add_assoc _ _ _))⟩)))
              repeat (go_quiet (first | (go_at_call 70; (with_reducible refine (stratumref07_SoundFacts.calls k1 _ _ ((iP l0 x3_1).f1) true _ ?side1 ?side2 A4.out).mono ?_); (case side1 => repeat (first | exact HR131_1.out | (with_reducible refine Kd.C_alloc ?_ _) | (with_reducible refine Kd.C_drewN ?_ _) | (with_reducible refine Kd.C_drew ?_))); (case side2 => exact HC131_1.out); rintro e w' ⟨rfl, ⟨nd, rfl⟩⟩; (try first | exact ⟨rfl, _, World.drewN_drewN _ _ _⟩ | exact ⟨rfl, _, Eq.trans (World.drewN_drewN _ _ _) (congrArg (World.drewN _) (Nat.add_assoc _ _ _))⟩))); try go_wp2_with (first | (go_at_call 70; (with_reducible refine (stratumref07_SoundFacts.calls k1 _ _ ((iP l0 x3_1).f1) true _ ?side1 ?side2 A4.out).mono ?_); (case side1 => repeat (first | exact HR131_1.out | (with_reducible refine Kd.C_alloc ?_ _) | (with_reducible refine Kd.C_drewN ?_ _) | (with_reducible refine Kd.C_drew ?_))); (case side2 => exact HC131_1.out); rintro e w' ⟨rfl, ⟨nd, rfl⟩⟩; (try first | exact ⟨rfl, _, World.drewN_drewN _ _ _⟩ | exact ⟨rfl, _, Eq.trans (World.drewN_drewN _ _ _) (congrArg (World.drewN _) (Nat.add_assoc _ _ _))⟩))))
              go_roundg k1
              case measure => have := HK1.out; omega
              case rel => exact ⟨(wrap64 (x3_1 + 1)), (by first | rfl | (simp; done) | (simp [*]; done)), H', ⟨by have := HK1.out; omega⟩, by repeat (first | exact iW.refl _ | apply iW.step)⟩
          · replace c5 := Bool.eq_false_iff.mpr c5
            subst c5
            have H1 : (some false) = some r := by rw [if_neg (show ¬ (false = true) by decide)] at H; exact H
            clear H
            have H := H1
            clear H1
            obtain rfl := Option.some.inj H
            have p131 : 0 ≤ (x3_1 : Int) := of_decide_eq_true asm_
            have q131 : x3_1 < (l0.length : Int) := of_decide_eq_true asm_
            obtain ⟨ad131, A131_1, c131_1, e131, hx131_0, hx131_1, hl131_1, hi131_1⟩ := kV HR0.out x3_1 p131 q131
            cases e131
            have HR131_1 := iC.mk hi131_1
            have HC131_1 := iC.mk hl131_1
            clear hi131_1 hl131_1
            replace p131 := eq_true p131
            replace q131 := eq_true q131
            go_wp2_with (first | (go_at_call 70; (with_reducible refine (stratumref07_SoundFacts.calls k1 _ _ ((iP l0 x3_1).f1) false _ ?side1 ?side2 A4.out).mono ?_); (case side1 => repeat (first | exact HR131_1.out | (with_reducible refine Kd.C_alloc ?_ _) | (with_reducible refine Kd.C_drewN ?_ _) | (with_reducible refine Kd.C_drew ?_))); (case side2 => exact HC131_1.out); rintro e w' ⟨rfl, ⟨nd, rfl⟩⟩; (try first | exact ⟨rfl, _, World.drewN_drewN _ _ _⟩ | exact ⟨rfl, _, Eq.trans (World.drewN_drewN _ _ _) (congrArg (World.drewN _) (Nat.add_assoc _ _ _))⟩)))
            repeat (go_quiet (first | (go_at_call 70; (with_reducible refine (stratumref07_SoundFacts.calls k1 _ _ ((iP l0 x3_1).f1) false _ ?side1 ?side2 A4.out).mono ?_); (case side1 => repeat (first | exact HR131_1.out | (with_reducible refine Kd.C_alloc ?_ _) | (with_reducible refine Kd.C_drewN ?_ _) | (with_reducible refine Kd.C_drew ?_))); (case side2 => exact HC131_1.out); rintro e w' ⟨rfl, ⟨nd, rfl⟩⟩; (try first | exact ⟨rfl, _, World.drewN_drewN _ _ _⟩ | exact ⟨rfl, _, Eq.trans (World.drewN_drewN _ _ _) (congrArg (World.drewN _) (Nat.add_assoc _ _ _))⟩))); try go_wp2_with (first | (go_at_call 70; (with_reducible refine (stratumref07_SoundFacts.calls k1 _ _ ((iP l0 x3_1).f1) false _ ?side1 ?side2 A4.out).mono ?_); (case side1 => repeat (first | exact HR131_1.out | (with_reducible refine Kd.C_alloc ?_ _) | (with_reducible refine Kd.C_drewN ?_ _) | (with_reducible refine Kd.C_drew ?_))); (case side2 => exact HC131_1.out); rintro e w' ⟨rfl, ⟨nd, rfl⟩⟩; (try first | exact ⟨rfl, _, World.drewN_drewN _ _ _⟩ | exact ⟨rfl, _, Eq.trans (World.drewN_drewN _ _ _) (congrArg (World.drewN _) (Nat.add_assoc _ _ _))⟩))))
            go_ret
            exact ⟨by first | rfl | (simp; done) | (simp [*]; done), by repeat (first | exact iW.refl _ | apply iW.step)⟩
        · rw [if_neg c3] at H
          exact absurd H (by simp)
      · rw [if_neg c2] at H
        have c2b0 : decide (x3_1 < (l0.length : Int)) = false := decide_eq_false c2
        clear c2
        obtain rfl := Option.some.inj H
        go_wp2
        repeat (go_quiet (fail); try go_wp2)
        go_ret
        exact ⟨by first | rfl | (simp; done) | (simp [*]; done), by repeat (first | exact iW.refl _ | apply iW.step)⟩
end Go.Proofs.YtgfkgppomaapiaaDoor.K
end

section
namespace Go.Proofs.YtgfkgppomaapiaaDoor.K
open RowKit YtgfkgppomaapiaaDoorW.PrintWords YtgfkgppomaapiaaDoorW.PrintLast YtgfkgppomaapiaaDoorW.PrintMore My
def flag (b : Bool) (c : Nat) (s : List UInt8) : Bool := b || s.any fun x => x.toNat == c
theorem nZ (b : Bool) (c : Nat) (s : List UInt8) : flag b c (s.take 0) = b := by simp [flag]
theorem nY (b : Bool) (c : Nat) (s : ByteArray) (k : Nat) (h : k < s.size) : flag b c (s.data.toList.take (k + 1)) = (flag b c (s.data.toList.take k) || (((s[k]'h).toNat : Int) == (c : Int))) := by
  have e : s.data.toList.take (k + 1) = s.data.toList.take k ++ [s[k]'h] := by
    rw [List.take_succ_eq_append_getElem (by simpa using h)]; rfl
  rw [e]
  unfold flag
  rw [List.any_append, ← Bool.or_assoc]
  congr 1
  simp only [List.any_cons, List.any_nil, Bool.or_false]
  rw [Bool.eq_iff_iff]
  simp only [beq_iff_eq]
  omega
set_option maxRecDepth 20000 in
set_option maxHeartbeats 4000000 in
theorem QQ (a0 a1 a2 : Int) (A3 : Option Addr) (c3 n3 : Nat) (A4 : Option Addr) (c4 n4 : Nat) (a5 : Int) (A6 : Option Addr) (c6 n6 : Nat) (a7 a8 : Int) (A9 : Option Addr) (c9 n9 : Nat) (s : ByteArray) (w : World) (r : Bool) (hs : (s.size : Int) ≤ 9223372036854775807)
    (HR : iC (r = (flag (a1 == 0) 73 s.data.toList && flag (a2 == 0) 65 s.data.toList && flag ((n3 : Int) == 0) 78 s.data.toList && flag ((n4 : Int) == 0) 70 s.data.toList && flag ((a5 == 0) && ((n6 : Int) == 0)) 77 s.data.toList && flag ((a7 == 0) && (a8 == 0) && ((n9 : Int) == 0)) 82 s.data.toList))) :
    Calls Tryd.prog 68 #[.agg #[.int .u8 a0, .int .u32 a1, .int .u32 a2, .slice A3 n3 c3, .slice A4 n4 c4, .int .u32 a5, .slice A6 n6 c6, .int .i64 a7, .int .i64 a8, .slice A9 n9 c9], .string s] w fun e w' => e = .returned (.bool r) ∧ Below w.heap.size w w' := by
  go_enter Tryd.func68, Tryd.ntmps68
  go_upto_region 5 with fail
  go_cut [9] (fun s9 wx => s9 = .bool ((a5 == 0) && ((n6 : Int) == 0)) ∧ wx = w.alloc (.cells #[.int .u8 a0, .int .u32 a1, .int .u32 a2, .slice A3 n3 c3, .slice A4 n4 c4, .int .u32 a5, .slice A6 n6 c6, .int .i64 a7, .int .i64 a8, .slice A9 n9 c9] 30))
  case first =>
    by_cases h5 : a5 = 0
    · subst h5
      go_wp2_with fail
      go_meet
      exact ⟨by simp, rfl⟩
    · have h5' : (a5 == 0) = false := by simpa using h5
      go_wp2_with fail
      go_meet
      exact ⟨by simp [h5'], rfl⟩
  case rest =>
    obtain ⟨rfl, rfl⟩ := hcut
    go_upto_region 6 with fail
    go_cut [10] (fun s10 wx => s10 = .bool ((a7 == 0) && (a8 == 0) && ((n9 : Int) == 0)) ∧ wx = w.alloc (.cells #[.int .u8 a0, .int .u32 a1, .int .u32 a2, .slice A3 n3 c3, .slice A4 n4 c4, .int .u32 a5, .slice A6 n6 c6, .int .i64 a7, .int .i64 a8, .slice A9 n9 c9] 30))
    case first =>
      by_cases h7 : a7 = 0
      · subst h7
        by_cases h8 : a8 = 0
        · subst h8
          go_wp2_with fail
          go_meet
          exact ⟨by simp, rfl⟩
        · have h8' : (a8 == 0) = false := by simpa using h8
          go_wp2_with fail
          go_meet
          exact ⟨by simp [h8'], rfl⟩
      · have h7' : (a7 == 0) = false := by simpa using h7
        go_wp2_with fail
        go_meet
        exact ⟨by simp [h7'], rfl⟩
    case rest =>
      obtain ⟨rfl, rfl⟩ := hcut
      generalize ((a5 == 0) && ((n6 : Int) == 0)) = i9 at HR ⊢
      generalize ((a7 == 0) && (a8 == 0) && ((n9 : Int) == 0)) = i10 at HR ⊢
      generalize (a1 == 0) = i5 at HR ⊢
      generalize (a2 == 0) = i6 at HR ⊢
      generalize ((n3 : Int) == 0) = i7 at HR ⊢
      generalize ((n4 : Int) == 0) = i8 at HR ⊢
      have HW := iC.mk (show Below w.heap.size w (w.alloc (.cells #[.int .u8 a0, .int .u32 a1, .int .u32 a2, .slice A3 n3 c3, .slice A4 n4 c4, .int .u32 a5, .slice A6 n6 c6, .int .i64 a7, .int .i64 a8, .slice A9 n9 c9] 30)) from iF (Below.refl _ _) _)
      generalize w.alloc (.cells #[.int .u8 a0, .int .u32 a1, .int .u32 a2, .slice A3 n3 c3, .slice A4 n4 c4, .int .u32 a5, .slice A6 n6 c6, .int .i64 a7, .int .i64 a8, .slice A9 n9 c9] 30) = wb at HW ⊢
      go_wp2_with fail
      go_loopg [5, 6, 7, 8, 9, 10, 11] s.size (fun gg s5 s6 s7 s8 s9 s10 s11 wr => ∃ k : Nat, k ≤ s.size ∧ s.size - k ≤ gg ∧ s5 = .bool (flag i5 73 (s.data.toList.take k)) ∧ s6 = .bool (flag i6 65 (s.data.toList.take k)) ∧ s7 = .bool (flag i7 78 (s.data.toList.take k)) ∧ s8 = .bool (flag i8 70 (s.data.toList.take k)) ∧ s9 = .bool (flag i9 77 (s.data.toList.take k)) ∧ s10 = .bool (flag i10 82 (s.data.toList.take k)) ∧ s11 = .int .i64 k ∧ wb = wr)
      case atStart => exact ⟨0, Nat.zero_le _, by omega, by rw [nZ], by rw [nZ], by rw [nZ], by rw [nZ], by rw [nZ], by rw [nZ], rfl, rfl⟩
      case round =>
        obtain ⟨k, hk, hg, rfl, rfl, rfl, rfl, rfl, rfl, rfl, rfl⟩ := hrel
        by_cases hks : k < s.size
        · have HS := iC.mk (And.intro (nY i5 73 s k hks) (And.intro (nY i6 65 s k hks) (And.intro (nY i7 78 s k hks) (And.intro (nY i8 70 s k hks) (And.intro (nY i9 77 s k hks) (nY i10 82 s k hks))))))
          clear HR
          have hsu : wrap64 ((k : Int) + 1) = k + 1 := by unfold wrap64; omega
          generalize flag i5 73 (s.data.toList.take k) = f5 at HS ⊢
          generalize flag i6 65 (s.data.toList.take k) = f6 at HS ⊢
          generalize flag i7 78 (s.data.toList.take k) = f7 at HS ⊢
          generalize flag i8 70 (s.data.toList.take k) = f8 at HS ⊢
          generalize flag i9 77 (s.data.toList.take k) = f9 at HS ⊢
          generalize flag i10 82 (s.data.toList.take k) = f10 at HS ⊢
          go_upto_region 10 with fail
          go_cut [5] (fun x wx => x = .bool (f5 || (((s[k]'hks).toNat : Int) == 73)) ∧ wb = wx)
          case first =>
            clear HS
            cases f5
            all_goals (go_wp2_with fail; go_meet; exact ⟨by simp, rfl⟩)
          case rest =>
          obtain ⟨rfl, rfl⟩ := hcut
          generalize (f5 || (((s[k]'hks).toNat : Int) == 73)) = g5 at HS ⊢
          go_upto_region 11 with fail
          go_cut [6] (fun x wx => x = .bool (f6 || (((s[k]'hks).toNat : Int) == 65)) ∧ wb = wx)
          case first =>
            clear HS
            cases f6
            all_goals (go_wp2_with fail; go_meet; exact ⟨by simp, rfl⟩)
          case rest =>
          obtain ⟨rfl, rfl⟩ := hcut
          generalize (f6 || (((s[k]'hks).toNat : Int) == 65)) = g6 at HS ⊢
          go_upto_region 12 with fail
          go_cut [7] (fun x wx => x = .bool (f7 || (((s[k]'hks).toNat : Int) == 78)) ∧ wb = wx)
          case first =>
            clear HS
            cases f7
            all_goals (go_wp2_with fail; go_meet; exact ⟨by simp, rfl⟩)
          case rest =>
          obtain ⟨rfl, rfl⟩ := hcut
          generalize (f7 || (((s[k]'hks).toNat : Int) == 78)) = g7 at HS ⊢
          go_upto_region 13 with fail
          go_cut [8] (fun x wx => x = .bool (f8 || (((s[k]'hks).toNat : Int) == 70)) ∧ wb = wx)
          case first =>
            clear HS
            cases f8
            all_goals (go_wp2_with fail; go_meet; exact ⟨by simp, rfl⟩)
          case rest =>
          obtain ⟨rfl, rfl⟩ := hcut
          generalize (f8 || (((s[k]'hks).toNat : Int) == 70)) = g8 at HS ⊢
          go_upto_region 14 with fail
          go_cut [9] (fun x wx => x = .bool (f9 || (((s[k]'hks).toNat : Int) == 77)) ∧ wb = wx)
          case first =>
            clear HS
            cases f9
            all_goals (go_wp2_with fail; go_meet; exact ⟨by simp, rfl⟩)
          case rest =>
          obtain ⟨rfl, rfl⟩ := hcut
          generalize (f9 || (((s[k]'hks).toNat : Int) == 77)) = g9 at HS ⊢
          cases f10
          all_goals
            go_wp2_with fail
            go_roundg (s.size - (k + 1))
            case measure => omega
            case rel => exact ⟨k + 1, by omega, by omega, by rw [HS.out.1], by rw [HS.out.2.1], by rw [HS.out.2.2.1], by rw [HS.out.2.2.2.1], by rw [HS.out.2.2.2.2.1], by rw [HS.out.2.2.2.2.2]; simp, by go_num, rfl⟩
        · have : k = s.size := by omega
          subst this
          have ht : s.data.toList.take s.size = s.data.toList := List.take_of_length_le (Nat.le_refl _)
          rw [ht]
          clear ht
          generalize flag i5 73 s.data.toList = f5 at HR ⊢
          generalize flag i6 65 s.data.toList = f6 at HR ⊢
          generalize flag i7 78 s.data.toList = f7 at HR ⊢
          generalize flag i8 70 s.data.toList = f8 at HR ⊢
          generalize flag i9 77 s.data.toList = f9 at HR ⊢
          generalize flag i10 82 s.data.toList = f10 at HR ⊢
          go_wp2_with fail
          all_goals (go_ret; exact ⟨by rw [HR.out]; simp [*], HW.out⟩)
def uN (a1 a2 : Int) (l3 : List Int) (l4 : List jO) (a5 : Int) (l6 : List jV) (a7 a8 : Int) (l9 : List jE) (s : List UInt8) : Bool :=
  flag (a1 == 0) 73 s && flag (a2 == 0) 65 s && flag ((l3.length : Int) == 0) 78 s && flag ((l4.length : Int) == 0) 70 s && flag ((a5 == 0) && ((l6.length : Int) == 0)) 77 s && flag ((a7 == 0) && (a8 == 0) && ((l9.length : Int) == 0)) 82 s
def stratumref07_bare.f (a0_0 : Int) (a0_1 : Int) (a0_2 : Int) (l0_3 : List Int) (l0_4 : List jO) (a0_5 : Int) (l0_6 : List jV) (a0_7 : Int) (a0_8 : Int) (l0_9 : List jE) (a1 : ByteArray) : Option Bool :=
  if (a1.size : Int) ≤ 9223372036854775807 then some (uN a0_1 a0_2 l0_3 l0_4 a0_5 l0_6 a0_7 a0_8 l0_9 a1.data.toList) else none
theorem stratumref07_bare.calls (a0_0 : Int) (a0_1 : Int) (a0_2 : Int) (A0_3 : Option Addr) (c0_3 : Nat) (l0_3 : List Int) (A0_4 : Option Addr) (c0_4 : Nat) (l0_4 : List jO) (a0_5 : Int) (A0_6 : Option Addr) (c0_6 : Nat) (l0_6 : List jV) (a0_7 : Int) (a0_8 : Int) (A0_9 : Option Addr) (c0_9 : Nat) (l0_9 : List jE) (a1 : ByteArray) (r : Bool) (w : World) (hr0_3 : Kd.C (Kd.int .i64) w A0_3 l0_3.length l0_3) (hc0_3 : l0_3.length ≤ c0_3) (hr0_4 : Kd.C k139 w A0_4 l0_4.length l0_4) (hc0_4 : l0_4.length ≤ c0_4) (hr0_6 : Kd.C k98 w A0_6 l0_6.length l0_6) (hc0_6 : l0_6.length ≤ c0_6) (hr0_9 : Kd.C k86 w A0_9 l0_9.length l0_9) (hc0_9 : l0_9.length ≤ c0_9) (h : stratumref07_bare.f a0_0 a0_1 a0_2 l0_3 l0_4 a0_5 l0_6 a0_7 a0_8 l0_9 a1 = some r) :
    Calls Tryd.prog 68 #[.agg #[.int .u8 a0_0, .int .u32 a0_1, .int .u32 a0_2, .slice A0_3 l0_3.length c0_3, .slice A0_4 l0_4.length c0_4, .int .u32 a0_5, .slice A0_6 l0_6.length c0_6, .int .i64 a0_7, .int .i64 a0_8, .slice A0_9 l0_9.length c0_9], .string a1] w fun e w' => e = .returned (.bool r) ∧ Below w.heap.size w w' := by
  unfold stratumref07_bare.f at h
  split at h
  case isFalse => cases h
  rename_i hs
  exact QQ _ _ _ _ _ _ _ _ _ _ _ _ _ _ _ _ _ _ _ w r hs ⟨(Option.some.inj h).symm⟩
end Go.Proofs.YtgfkgppomaapiaaDoor.K
end

section
namespace Go.Proofs.YtgfkgppomaapiaaDoor.K
open Go.RowKit Go.Proofs.YtgfkgppomaapiaaDoorW.PrintWords Go.Proofs.YtgfkgppomaapiaaDoorW.PrintLast Go.Proofs.YtgfkgppomaapiaaDoorW.PrintMore
def stratumref07_Sound.j0 : Nat → Int → Bool → Int → Int → Int → List Int → List (S139) → Int → List (S98) → Int → Int → List (S86) → Option (Bool)
  | 0, _, _, _, _, _, _, _, _, _, _, _, _ => none
  | k + 1, x4, x28, x136000, x136001, x136002, x136003, x136004, x136005, x136006, x136007, x136008, x136009 => if x28 = true then ((stratumref07_bare.f x136000 x136001 x136002 x136003 x136004 x136005 x136006 x136007 x136008 x136009 (⟨#[73]⟩ : ByteArray)).bind fun t141 => (some t141)) else (if x4 = 6 then ((stratumref07_bare.f x136000 x136001 x136002 x136003 x136004 x136005 x136006 x136007 x136008 x136009 (⟨#[77]⟩ : ByteArray)).bind fun t142 => (if t142 = true then ((stratumref07_spans.f k x136006).bind fun t143 => (some t143)) else (some false))) else (if x4 = 7 then ((stratumref07_bare.f x136000 x136001 x136002 x136003 x136004 x136005 x136006 x136007 x136008 x136009 (⟨#[73, 82]⟩ : ByteArray)).bind fun t144 => (if t144 = true then ((stratumref07_SoundEntries.f k x136009).bind fun t145 => (if t145 = true then (if x136007 ≥ 0 then (if x136007 ≤ 10000 then (if x136008 ≥ 0 then (some (decide (x136008 ≤ 10000))) else (some false)) else (some false)) else (some false)) else (some false))) else (some false))) else (some false)))
def stratumref07_Sound.f (k : Nat) (a0_0 : Int) (a0_1 : Int) (a0_2 : Int) (l0_3 : List Int) (l0_4 : List (S139)) (a0_5 : Int) (l0_6 : List (S98)) (a0_7 : Int) (a0_8 : Int) (l0_9 : List (S86)) : Option (Bool) := if a0_0 = 1 then ((stratumref07_bare.f a0_0 a0_1 a0_2 l0_3 l0_4 a0_5 l0_6 a0_7 a0_8 l0_9 (⟨#[73, 78, 70]⟩ : ByteArray)).bind fun t136 => (if t136 = true then ((stratumref07_SoundNodes.f k l0_3).bind fun t137 => (if t137 = true then ((stratumref07_SoundFacts.f k l0_4).bind fun t138 => (some t138)) else (some false))) else (some false))) else (if a0_0 = 2 then ((stratumref07_bare.f a0_0 a0_1 a0_2 l0_3 l0_4 a0_5 l0_6 a0_7 a0_8 l0_9 (⟨#[73, 65, 78]⟩ : ByteArray)).bind fun t139 => (if t139 = true then ((stratumref07_SoundNodes.f k l0_3).bind fun t140 => (some t140)) else (some false))) else (if a0_0 = 3 then (stratumref07_Sound.j0 k a0_0 (a0_0 == 3) a0_0 a0_1 a0_2 l0_3 l0_4 a0_5 l0_6 a0_7 a0_8 l0_9) else (if a0_0 = 4 then (stratumref07_Sound.j0 k a0_0 (a0_0 == 4) a0_0 a0_1 a0_2 l0_3 l0_4 a0_5 l0_6 a0_7 a0_8 l0_9) else (stratumref07_Sound.j0 k a0_0 (a0_0 == 5) a0_0 a0_1 a0_2 l0_3 l0_4 a0_5 l0_6 a0_7 a0_8 l0_9))))
set_option maxHeartbeats 8000000 in
set_option maxRecDepth 100000 in
theorem stratumref07_Sound.calls (k : Nat) (a0_0 : Int) (a0_1 : Int) (a0_2 : Int) (A0_3 : Option Addr) (c0_3 : Nat) (l0_3 : List Int) (A0_4 : Option Addr) (c0_4 : Nat) (l0_4 : List (S139)) (a0_5 : Int) (A0_6 : Option Addr) (c0_6 : Nat) (l0_6 : List (S98)) (a0_7 : Int) (a0_8 : Int) (A0_9 : Option Addr) (c0_9 : Nat) (l0_9 : List (S86)) (r : Bool) (w : World) (hr0_3 : Kd.C (Kd.int .i64) w A0_3 l0_3.length l0_3) (hc0_3 : l0_3.length ≤ c0_3) (hr0_4 : Kd.C k139 w A0_4 l0_4.length l0_4) (hc0_4 : l0_4.length ≤ c0_4) (hr0_6 : Kd.C k98 w A0_6 l0_6.length l0_6) (hc0_6 : l0_6.length ≤ c0_6) (hr0_9 : Kd.C k86 w A0_9 l0_9.length l0_9) (hc0_9 : l0_9.length ≤ c0_9) (h : stratumref07_Sound.f k a0_0 a0_1 a0_2 l0_3 l0_4 a0_5 l0_6 a0_7 a0_8 l0_9 = some r) :
    Calls Tryd.prog 20 #[.agg #[.int .u8 a0_0, .int .u32 a0_1, .int .u32 a0_2, .slice A0_3 l0_3.length c0_3, .slice A0_4 l0_4.length c0_4, .int .u32 a0_5, .slice A0_6 l0_6.length c0_6, .int .i64 a0_7, .int .i64 a0_8, .slice A0_9 l0_9.length c0_9]] w fun e w' => e = .returned (.bool r) ∧ Below w.heap.size w w' := by
  have hu30 := Tryd.underlying30
  have HR0_3 := iC.mk hr0_3
  have HC0_3 := iC.mk hc0_3
  clear hr0_3 hc0_3
  have HR0_4 := iC.mk hr0_4
  have HC0_4 := iC.mk hc0_4
  clear hr0_4 hc0_4
  have HR0_6 := iC.mk hr0_6
  have HC0_6 := iC.mk hc0_6
  clear hr0_6 hc0_6
  have HR0_9 := iC.mk hr0_9
  have HC0_9 := iC.mk hc0_9
  clear hr0_9 hc0_9
  have HB := iC.mk (Below.refl w.heap.size w)
  have H : (if a0_0 = 1 then ((stratumref07_bare.f a0_0 a0_1 a0_2 l0_3 l0_4 a0_5 l0_6 a0_7 a0_8 l0_9 (⟨#[73, 78, 70]⟩ : ByteArray)).bind fun t136 => (if t136 = true then ((stratumref07_SoundNodes.f k l0_3).bind fun t137 => (if t137 = true then ((stratumref07_SoundFacts.f k l0_4).bind fun t138 => (some t138)) else (some false))) else (some false))) else (if a0_0 = 2 then ((stratumref07_bare.f a0_0 a0_1 a0_2 l0_3 l0_4 a0_5 l0_6 a0_7 a0_8 l0_9 (⟨#[73, 65, 78]⟩ : ByteArray)).bind fun t139 => (if t139 = true then ((stratumref07_SoundNodes.f k l0_3).bind fun t140 => (some t140)) else (some false))) else (if a0_0 = 3 then (stratumref07_Sound.j0 k a0_0 (a0_0 == 3) a0_0 a0_1 a0_2 l0_3 l0_4 a0_5 l0_6 a0_7 a0_8 l0_9) else (if a0_0 = 4 then (stratumref07_Sound.j0 k a0_0 (a0_0 == 4) a0_0 a0_1 a0_2 l0_3 l0_4 a0_5 l0_6 a0_7 a0_8 l0_9) else (stratumref07_Sound.j0 k a0_0 (a0_0 == 5) a0_0 a0_1 a0_2 l0_3 l0_4 a0_5 l0_6 a0_7 a0_8 l0_9))))) = some r := h
  clear h
  by_cases c2 : a0_0 = 1
  · rw [if_pos c2] at H
    have c2b0 : (a0_0 == 1) = true := beq_iff_eq.mpr c2
    have c2b1 : (a0_0 != 1) = false := bne_eq_false_iff_eq.mpr c2
    clear c2
    replace H := Option.bind_eq_some_iff.mp H
    obtain ⟨t136, A30, H⟩ := H
    replace H : (if t136 = true then ((stratumref07_SoundNodes.f k l0_3).bind fun t137 => (if t137 = true then ((stratumref07_SoundFacts.f k l0_4).bind fun t138 => (some t138)) else (some false))) else (some false)) = some r := H
    have A3 := iC.mk A30
    clear A30
    by_cases c4 : t136 = true
    · subst c4
      have H1 : ((stratumref07_SoundNodes.f k l0_3).bind fun t137 => (if t137 = true then ((stratumref07_SoundFacts.f k l0_4).bind fun t138 => (some t138)) else (some false))) = some r := by rw [if_pos rfl] at H; exact H
      clear H
      have H := H1
      clear H1
      replace H := Option.bind_eq_some_iff.mp H
      obtain ⟨t137, A50, H⟩ := H
      replace H : (if t137 = true then ((stratumref07_SoundFacts.f k l0_4).bind fun t138 => (some t138)) else (some false)) = some r := H
      have A5 := iC.mk A50
      clear A50
      by_cases c6 : t137 = true
      · subst c6
        have H1 : ((stratumref07_SoundFacts.f k l0_4).bind fun t138 => (some t138)) = some r := by rw [if_pos rfl] at H; exact H
        clear H
        have H := H1
        clear H1
        replace H := Option.bind_eq_some_iff.mp H
        obtain ⟨t138, A70, H⟩ := H
        replace H : (some t138) = some r := H
        have A7 := iC.mk A70
        clear A70
        obtain rfl := Option.some.inj H
        go_enter Tryd.func20, Tryd.ntmps20
        go_wp2_with (first | ((with_reducible refine jS (N := 1) rfl ?_); refine jI ?hg (N := 1) ?hd (cs := #[.int .u8 a0_0, .int .u32 a0_1, .int .u32 a0_2, .slice A0_3 l0_3.length c0_3, .slice A0_4 l0_4.length c0_4, .int .u32 a0_5, .slice A0_6 l0_6.length c0_6, .int .i64 a0_7, .int .i64 a0_8, .slice A0_9 l0_9.length c0_9]) (t := 30) ?hr ?_; (case hd => rfl); (case hg => rfl); (case hr => first | (go_simp; done) | (go_simp; rfl)); intro gb135 hg w8 hbox hb; have n0_ := iC.mk (iI hb_ hb); have n1_ := iC.mk (hbox); have n2_ := iC.mk ((by rw [hg]; exact (iQ hb_) : w.heap.size ≤ gb135)); have n3_ := iC.mk ((by rw [hg]; exact (iQ hb_) : w.heap.size ≤ gb135)); clear HB; have HB := n0_; have BK135 := n1_; have GW135 := n2_; have GE135 := n3_; clear n0_ n1_ n2_ n3_; clear hb hbox hg; have hcz9_0 : w8.cell? ⟨gb135, 0, none⟩ = some (.int .u8 a0_0) := (iE BK135.out 0).trans rfl; have hcz9_1 : w8.cell? ⟨gb135, 1, none⟩ = some (.int .u32 a0_1) := (iE BK135.out 1).trans rfl; have hcz9_2 : w8.cell? ⟨gb135, 2, none⟩ = some (.int .u32 a0_2) := (iE BK135.out 2).trans rfl; have hcz9_3 : w8.cell? ⟨gb135, 3, none⟩ = some (.slice A0_3 l0_3.length c0_3) := (iE BK135.out 3).trans rfl; have hcz9_4 : w8.cell? ⟨gb135, 4, none⟩ = some (.slice A0_4 l0_4.length c0_4) := (iE BK135.out 4).trans rfl; have hcz9_5 : w8.cell? ⟨gb135, 5, none⟩ = some (.int .u32 a0_5) := (iE BK135.out 5).trans rfl; have hcz9_6 : w8.cell? ⟨gb135, 6, none⟩ = some (.slice A0_6 l0_6.length c0_6) := (iE BK135.out 6).trans rfl; have hcz9_7 : w8.cell? ⟨gb135, 7, none⟩ = some (.int .i64 a0_7) := (iE BK135.out 7).trans rfl; have hcz9_8 : w8.cell? ⟨gb135, 8, none⟩ = some (.int .i64 a0_8) := (iE BK135.out 8).trans rfl; have hcz9_9 : w8.cell? ⟨gb135, 9, none⟩ = some (.slice A0_9 l0_9.length c0_9) := (iE BK135.out 9).trans rfl; have hfz9_0 := iD BK135.out 0; have hfz9_1 := iD BK135.out 1; have hfz9_2 := iD BK135.out 2; have hfz9_3 := iD BK135.out 3; have hfz9_4 := iD BK135.out 4; have hfz9_5 := iD BK135.out 5; have hfz9_6 := iD BK135.out 6; have hfz9_7 := iD BK135.out 7; have hfz9_8 := iD BK135.out 8; have hfz9_9 := iD BK135.out 9) | ((with_reducible refine jK (f := 68) rfl ?_); refine lV (some 8) rfl rfl Tryd.func68 (by kernel_rfl) rfl #[.agg #[.int .u8 a0_0, .int .u32 a0_1, .int .u32 a0_2, .slice A0_3 l0_3.length c0_3, .slice A0_4 l0_4.length c0_4, .int .u32 a0_5, .slice A0_6 l0_6.length c0_6, .int .i64 a0_7, .int .i64 a0_8, .slice A0_9 l0_9.length c0_9], .string (⟨#[73, 78, 70]⟩ : ByteArray)] rfl (by (try simp only [List.map_toArray, List.map_cons, List.map_nil]); first | done | rfl | (simp only [List.length_drop, List.length_take]; rfl)) ?_; (with_reducible refine (stratumref07_bare.calls a0_0 a0_1 a0_2 _ _ l0_3 _ _ l0_4 a0_5 _ _ l0_6 a0_7 a0_8 _ _ l0_9 (⟨#[73, 78, 70]⟩ : ByteArray) true _ ?side1 ?side2 ?side3 ?side4 ?side5 ?side6 ?side7 ?side8 A3.out).mono ?_); (case side1 => repeat (first | exact (Kd.C_below HR0_3.out HB.out) | (with_reducible refine Kd.C_alloc ?_ _) | (with_reducible refine Kd.C_drewN ?_ _) | (with_reducible refine Kd.C_drew ?_))); (case side2 => exact HC0_3.out); (case side3 => repeat (first | exact (Kd.C_below HR0_4.out HB.out) | (with_reducible refine Kd.C_alloc ?_ _) | (with_reducible refine Kd.C_drewN ?_ _) | (with_reducible refine Kd.C_drew ?_))); (case side4 => exact HC0_4.out); (case side5 => repeat (first | exact (Kd.C_below HR0_6.out HB.out) | (with_reducible refine Kd.C_alloc ?_ _) | (with_reducible refine Kd.C_drewN ?_ _) | (with_reducible refine Kd.C_drew ?_))); (case side6 => exact HC0_6.out); (case side7 => repeat (first | exact (Kd.C_below HR0_9.out HB.out) | (with_reducible refine Kd.C_alloc ?_ _) | (with_reducible refine Kd.C_drewN ?_ _) | (with_reducible refine Kd.C_drew ?_))); (case side8 => exact HC0_9.out); rintro e w10 ⟨rfl, hb⟩; refine ⟨_, rfl, ?_⟩; have n0_ := iC.mk (jF (g := gb135) (o := .cells #[.int .u8 a0_0, .int .u32 a0_1, .int .u32 a0_2, .slice A0_3 l0_3.length c0_3, .slice A0_4 l0_4.length c0_4, .int .u32 a0_5, .slice A0_6 l0_6.length c0_6, .int .i64 a0_7, .int .i64 a0_8, .slice A0_9 l0_9.length c0_9] 30 (0, 0)) (bk_ BK135.out) hb); have n1_ := iC.mk (iI (by repeat (first | (with_reducible first | exact HB.out | apply iF | apply iG | apply iH | refine iJ ?_ GE135.out) | exact HB.out)) hb); clear BK135; clear HB; have BK135 := n0_; have HB := n1_; clear n0_ n1_; (try clear hb); (try clear hb2); (try clear hk); (try clear hi); have hcz11_0 : w10.cell? ⟨gb135, 0, none⟩ = some (.int .u8 a0_0) := (iE BK135.out 0).trans rfl; have hcz11_1 : w10.cell? ⟨gb135, 1, none⟩ = some (.int .u32 a0_1) := (iE BK135.out 1).trans rfl; have hcz11_2 : w10.cell? ⟨gb135, 2, none⟩ = some (.int .u32 a0_2) := (iE BK135.out 2).trans rfl; have hcz11_3 : w10.cell? ⟨gb135, 3, none⟩ = some (.slice A0_3 l0_3.length c0_3) := (iE BK135.out 3).trans rfl; have hcz11_4 : w10.cell? ⟨gb135, 4, none⟩ = some (.slice A0_4 l0_4.length c0_4) := (iE BK135.out 4).trans rfl; have hcz11_5 : w10.cell? ⟨gb135, 5, none⟩ = some (.int .u32 a0_5) := (iE BK135.out 5).trans rfl; have hcz11_6 : w10.cell? ⟨gb135, 6, none⟩ = some (.slice A0_6 l0_6.length c0_6) := (iE BK135.out 6).trans rfl; have hcz11_7 : w10.cell? ⟨gb135, 7, none⟩ = some (.int .i64 a0_7) := (iE BK135.out 7).trans rfl; have hcz11_8 : w10.cell? ⟨gb135, 8, none⟩ = some (.int .i64 a0_8) := (iE BK135.out 8).trans rfl; have hcz11_9 : w10.cell? ⟨gb135, 9, none⟩ = some (.slice A0_9 l0_9.length c0_9) := (iE BK135.out 9).trans rfl; have hfz11_0 := iD BK135.out 0; have hfz11_1 := iD BK135.out 1; have hfz11_2 := iD BK135.out 2; have hfz11_3 := iD BK135.out 3; have hfz11_4 := iD BK135.out 4; have hfz11_5 := iD BK135.out 5; have hfz11_6 := iD BK135.out 6; have hfz11_7 := iD BK135.out 7; have hfz11_8 := iD BK135.out 8; have hfz11_9 := iD BK135.out 9) | (go_at_call 69; (with_reducible refine (stratumref07_SoundNodes.calls k _ _ l0_3 true _ ?side1 ?side2 A5.out).mono ?_); (case side1 => repeat (first | exact (Kd.C_below HR0_3.out HB.out) | (with_reducible refine Kd.C_alloc ?_ _) | (with_reducible refine Kd.C_drewN ?_ _) | (with_reducible refine Kd.C_drew ?_))); (case side2 => exact HC0_3.out); rintro e w' ⟨rfl, ⟨nd, rfl⟩⟩) | (go_at_call 70; (with_reducible refine (stratumref07_SoundFacts.calls k _ _ l0_4 t138 _ ?side1 ?side2 A7.out).mono ?_); (case side1 => repeat (first | exact (Kd.C_below HR0_4.out (by repeat (first | (with_reducible first | exact HB.out | apply iF | apply iG | apply iH | refine iJ ?_ GE135.out) | exact HB.out))) | (with_reducible refine Kd.C_alloc ?_ _) | (with_reducible refine Kd.C_drewN ?_ _) | (with_reducible refine Kd.C_drew ?_))); (case side2 => exact HC0_4.out); rintro e w' ⟨rfl, ⟨nd, rfl⟩⟩))
        go_ret
        exact ⟨by first | rfl | (simp [iM, iO] <;> rfl) | (simp [*, iM, iO] <;> rfl), by repeat (first | (with_reducible first | exact HB.out | apply iF | apply iG | apply iH | refine iJ ?_ GE135.out) | exact HB.out)⟩
      · replace c6 := Bool.eq_false_iff.mpr c6
        subst c6
        have H1 : (some false) = some r := by rw [if_neg (show ¬ (false = true) by decide)] at H; exact H
        clear H
        have H := H1
        clear H1
        obtain rfl := Option.some.inj H
        go_enter Tryd.func20, Tryd.ntmps20
        go_wp2_with (first | ((with_reducible refine jS (N := 1) rfl ?_); refine jI ?hg (N := 1) ?hd (cs := #[.int .u8 a0_0, .int .u32 a0_1, .int .u32 a0_2, .slice A0_3 l0_3.length c0_3, .slice A0_4 l0_4.length c0_4, .int .u32 a0_5, .slice A0_6 l0_6.length c0_6, .int .i64 a0_7, .int .i64 a0_8, .slice A0_9 l0_9.length c0_9]) (t := 30) ?hr ?_; (case hd => rfl); (case hg => rfl); (case hr => first | (go_simp; done) | (go_simp; rfl)); intro gb135 hg w12 hbox hb; have n0_ := iC.mk (iI hb_ hb); have n1_ := iC.mk (hbox); have n2_ := iC.mk ((by rw [hg]; exact (iQ hb_) : w.heap.size ≤ gb135)); have n3_ := iC.mk ((by rw [hg]; exact (iQ hb_) : w.heap.size ≤ gb135)); clear HB; have HB := n0_; have BK135 := n1_; have GW135 := n2_; have GE135 := n3_; clear n0_ n1_ n2_ n3_; clear hb hbox hg; have hcz13_0 : w12.cell? ⟨gb135, 0, none⟩ = some (.int .u8 a0_0) := (iE BK135.out 0).trans rfl; have hcz13_1 : w12.cell? ⟨gb135, 1, none⟩ = some (.int .u32 a0_1) := (iE BK135.out 1).trans rfl; have hcz13_2 : w12.cell? ⟨gb135, 2, none⟩ = some (.int .u32 a0_2) := (iE BK135.out 2).trans rfl; have hcz13_3 : w12.cell? ⟨gb135, 3, none⟩ = some (.slice A0_3 l0_3.length c0_3) := (iE BK135.out 3).trans rfl; have hcz13_4 : w12.cell? ⟨gb135, 4, none⟩ = some (.slice A0_4 l0_4.length c0_4) := (iE BK135.out 4).trans rfl; have hcz13_5 : w12.cell? ⟨gb135, 5, none⟩ = some (.int .u32 a0_5) := (iE BK135.out 5).trans rfl; have hcz13_6 : w12.cell? ⟨gb135, 6, none⟩ = some (.slice A0_6 l0_6.length c0_6) := (iE BK135.out 6).trans rfl; have hcz13_7 : w12.cell? ⟨gb135, 7, none⟩ = some (.int .i64 a0_7) := (iE BK135.out 7).trans rfl; have hcz13_8 : w12.cell? ⟨gb135, 8, none⟩ = some (.int .i64 a0_8) := (iE BK135.out 8).trans rfl; have hcz13_9 : w12.cell? ⟨gb135, 9, none⟩ = some (.slice A0_9 l0_9.length c0_9) := (iE BK135.out 9).trans rfl; have hfz13_0 := iD BK135.out 0; have hfz13_1 := iD BK135.out 1; have hfz13_2 := iD BK135.out 2; have hfz13_3 := iD BK135.out 3; have hfz13_4 := iD BK135.out 4; have hfz13_5 := iD BK135.out 5; have hfz13_6 := iD BK135.out 6; have hfz13_7 := iD BK135.out 7; have hfz13_8 := iD BK135.out 8; have hfz13_9 := iD BK135.out 9) | ((with_reducible refine jK (f := 68) rfl ?_); refine lV (some 8) rfl rfl Tryd.func68 (by kernel_rfl) rfl #[.agg #[.int .u8 a0_0, .int .u32 a0_1, .int .u32 a0_2, .slice A0_3 l0_3.length c0_3, .slice A0_4 l0_4.length c0_4, .int .u32 a0_5, .slice A0_6 l0_6.length c0_6, .int .i64 a0_7, .int .i64 a0_8, .slice A0_9 l0_9.length c0_9], .string (⟨#[73, 78, 70]⟩ : ByteArray)] rfl (by (try simp only [List.map_toArray, List.map_cons, List.map_nil]); first | done | rfl | (simp only [List.length_drop, List.length_take]; rfl)) ?_; (with_reducible refine (stratumref07_bare.calls a0_0 a0_1 a0_2 _ _ l0_3 _ _ l0_4 a0_5 _ _ l0_6 a0_7 a0_8 _ _ l0_9 (⟨#[73, 78, 70]⟩ : ByteArray) true _ ?side1 ?side2 ?side3 ?side4 ?side5 ?side6 ?side7 ?side8 A3.out).mono ?_); (case side1 => repeat (first | exact (Kd.C_below HR0_3.out HB.out) | (with_reducible refine Kd.C_alloc ?_ _) | (with_reducible refine Kd.C_drewN ?_ _) | (with_reducible refine Kd.C_drew ?_))); (case side2 => exact HC0_3.out); (case side3 => repeat (first | exact (Kd.C_below HR0_4.out HB.out) | (with_reducible refine Kd.C_alloc ?_ _) | (with_reducible refine Kd.C_drewN ?_ _) | (with_reducible refine Kd.C_drew ?_))); (case side4 => exact HC0_4.out); (case side5 => repeat (first | exact (Kd.C_below HR0_6.out HB.out) | (with_reducible refine Kd.C_alloc ?_ _) | (with_reducible refine Kd.C_drewN ?_ _) | (with_reducible refine Kd.C_drew ?_))); (case side6 => exact HC0_6.out); (case side7 => repeat (first | exact (Kd.C_below HR0_9.out HB.out) | (with_reducible refine Kd.C_alloc ?_ _) | (with_reducible refine Kd.C_drewN ?_ _) | (with_reducible refine Kd.C_drew ?_))); (case side8 => exact HC0_9.out); rintro e w14 ⟨rfl, hb⟩; refine ⟨_, rfl, ?_⟩; have n0_ := iC.mk (jF (g := gb135) (o := .cells #[.int .u8 a0_0, .int .u32 a0_1, .int .u32 a0_2, .slice A0_3 l0_3.length c0_3, .slice A0_4 l0_4.length c0_4, .int .u32 a0_5, .slice A0_6 l0_6.length c0_6, .int .i64 a0_7, .int .i64 a0_8, .slice A0_9 l0_9.length c0_9] 30 (0, 0)) (bk_ BK135.out) hb); have n1_ := iC.mk (iI (by repeat (first | (with_reducible first | exact HB.out | apply iF | apply iG | apply iH | refine iJ ?_ GE135.out) | exact HB.out)) hb); clear BK135; clear HB; have BK135 := n0_; have HB := n1_; clear n0_ n1_; (try clear hb); (try clear hb2); (try clear hk); (try clear hi); have hcz15_0 : w14.cell? ⟨gb135, 0, none⟩ = some (.int .u8 a0_0) := (iE BK135.out 0).trans rfl; have hcz15_1 : w14.cell? ⟨gb135, 1, none⟩ = some (.int .u32 a0_1) := (iE BK135.out 1).trans rfl; have hcz15_2 : w14.cell? ⟨gb135, 2, none⟩ = some (.int .u32 a0_2) := (iE BK135.out 2).trans rfl; have hcz15_3 : w14.cell? ⟨gb135, 3, none⟩ = some (.slice A0_3 l0_3.length c0_3) := (iE BK135.out 3).trans rfl; have hcz15_4 : w14.cell? ⟨gb135, 4, none⟩ = some (.slice A0_4 l0_4.length c0_4) := (iE BK135.out 4).trans rfl; have hcz15_5 : w14.cell? ⟨gb135, 5, none⟩ = some (.int .u32 a0_5) := (iE BK135.out 5).trans rfl; have hcz15_6 : w14.cell? ⟨gb135, 6, none⟩ = some (.slice A0_6 l0_6.length c0_6) := (iE BK135.out 6).trans rfl; have hcz15_7 : w14.cell? ⟨gb135, 7, none⟩ = some (.int .i64 a0_7) := (iE BK135.out 7).trans rfl; have hcz15_8 : w14.cell? ⟨gb135, 8, none⟩ = some (.int .i64 a0_8) := (iE BK135.out 8).trans rfl; have hcz15_9 : w14.cell? ⟨gb135, 9, none⟩ = some (.slice A0_9 l0_9.length c0_9) := (iE BK135.out 9).trans rfl; have hfz15_0 := iD BK135.out 0; have hfz15_1 := iD BK135.out 1; have hfz15_2 := iD BK135.out 2; have hfz15_3 := iD BK135.out 3; have hfz15_4 := iD BK135.out 4; have hfz15_5 := iD BK135.out 5; have hfz15_6 := iD BK135.out 6; have hfz15_7 := iD BK135.out 7; have hfz15_8 := iD BK135.out 8; have hfz15_9 := iD BK135.out 9) | (go_at_call 69; (with_reducible refine (stratumref07_SoundNodes.calls k _ _ l0_3 false _ ?side1 ?side2 A5.out).mono ?_); (case side1 => repeat (first | exact (Kd.C_below HR0_3.out HB.out) | (with_reducible refine Kd.C_alloc ?_ _) | (with_reducible refine Kd.C_drewN ?_ _) | (with_reducible refine Kd.C_drew ?_))); (case side2 => exact HC0_3.out); rintro e w' ⟨rfl, ⟨nd, rfl⟩⟩))
        go_ret
        exact ⟨by first | rfl | (simp [iM, iO] <;> rfl) | (simp [*, iM, iO] <;> rfl), by repeat (first | (with_reducible first | exact HB.out | apply iF | apply iG | apply iH | refine iJ ?_ GE135.out) | exact HB.out)⟩
    · replace c4 := Bool.eq_false_iff.mpr c4
      subst c4
      have H1 : (some false) = some r := by rw [if_neg (show ¬ (false = true) by decide)] at H; exact H
      clear H
      have H := H1
      clear H1
      obtain rfl := Option.some.inj H
      go_enter Tryd.func20, Tryd.ntmps20
      go_wp2_with (first | ((with_reducible refine jS (N := 1) rfl ?_); refine jI ?hg (N := 1) ?hd (cs := #[.int .u8 a0_0, .int .u32 a0_1, .int .u32 a0_2, .slice A0_3 l0_3.length c0_3, .slice A0_4 l0_4.length c0_4, .int .u32 a0_5, .slice A0_6 l0_6.length c0_6, .int .i64 a0_7, .int .i64 a0_8, .slice A0_9 l0_9.length c0_9]) (t := 30) ?hr ?_; (case hd => rfl); (case hg => rfl); (case hr => first | (go_simp; done) | (go_simp; rfl)); intro gb135 hg w16 hbox hb; have n0_ := iC.mk (iI hb_ hb); have n1_ := iC.mk (hbox); have n2_ := iC.mk ((by rw [hg]; exact (iQ hb_) : w.heap.size ≤ gb135)); have n3_ := iC.mk ((by rw [hg]; exact (iQ hb_) : w.heap.size ≤ gb135)); clear HB; have HB := n0_; have BK135 := n1_; have GW135 := n2_; have GE135 := n3_; clear n0_ n1_ n2_ n3_; clear hb hbox hg; have hcz17_0 : w16.cell? ⟨gb135, 0, none⟩ = some (.int .u8 a0_0) := (iE BK135.out 0).trans rfl; have hcz17_1 : w16.cell? ⟨gb135, 1, none⟩ = some (.int .u32 a0_1) := (iE BK135.out 1).trans rfl; have hcz17_2 : w16.cell? ⟨gb135, 2, none⟩ = some (.int .u32 a0_2) := (iE BK135.out 2).trans rfl; have hcz17_3 : w16.cell? ⟨gb135, 3, none⟩ = some (.slice A0_3 l0_3.length c0_3) := (iE BK135.out 3).trans rfl; have hcz17_4 : w16.cell? ⟨gb135, 4, none⟩ = some (.slice A0_4 l0_4.length c0_4) := (iE BK135.out 4).trans rfl; have hcz17_5 : w16.cell? ⟨gb135, 5, none⟩ = some (.int .u32 a0_5) := (iE BK135.out 5).trans rfl; have hcz17_6 : w16.cell? ⟨gb135, 6, none⟩ = some (.slice A0_6 l0_6.length c0_6) := (iE BK135.out 6).trans rfl; have hcz17_7 : w16.cell? ⟨gb135, 7, none⟩ = some (.int .i64 a0_7) := (iE BK135.out 7).trans rfl; have hcz17_8 : w16.cell? ⟨gb135, 8, none⟩ = some (.int .i64 a0_8) := (iE BK135.out 8).trans rfl; have hcz17_9 : w16.cell? ⟨gb135, 9, none⟩ = some (.slice A0_9 l0_9.length c0_9) := (iE BK135.out 9).trans rfl; have hfz17_0 := iD BK135.out 0; have hfz17_1 := iD BK135.out 1; have hfz17_2 := iD BK135.out 2; have hfz17_3 := iD BK135.out 3; have hfz17_4 := iD BK135.out 4; have hfz17_5 := iD BK135.out 5; have hfz17_6 := iD BK135.out 6; have hfz17_7 := iD BK135.out 7; have hfz17_8 := iD BK135.out 8; have hfz17_9 := iD BK135.out 9) | ((with_reducible refine jK (f := 68) rfl ?_); refine lV (some 8) rfl rfl Tryd.func68 (by kernel_rfl) rfl #[.agg #[.int .u8 a0_0, .int .u32 a0_1, .int .u32 a0_2, .slice A0_3 l0_3.length c0_3, .slice A0_4 l0_4.length c0_4, .int .u32 a0_5, .slice A0_6 l0_6.length c0_6, .int .i64 a0_7, .int .i64 a0_8, .slice A0_9 l0_9.length c0_9], .string (⟨#[73, 78, 70]⟩ : ByteArray)] rfl (by (try simp only [List.map_toArray, List.map_cons, List.map_nil]); first | done | rfl | (simp only [List.length_drop, List.length_take]; rfl)) ?_; (with_reducible refine (stratumref07_bare.calls a0_0 a0_1 a0_2 _ _ l0_3 _ _ l0_4 a0_5 _ _ l0_6 a0_7 a0_8 _ _ l0_9 (⟨#[73, 78, 70]⟩ : ByteArray) false _ ?side1 ?side2 ?side3 ?side4 ?side5 ?side6 ?side7 ?side8 A3.out).mono ?_); (case side1 => repeat (first | exact (Kd.C_below HR0_3.out HB.out) | (with_reducible refine Kd.C_alloc ?_ _) | (with_reducible refine Kd.C_drewN ?_ _) | (with_reducible refine Kd.C_drew ?_))); (case side2 => exact HC0_3.out); (case side3 => repeat (first | exact (Kd.C_below HR0_4.out HB.out) | (with_reducible refine Kd.C_alloc ?_ _) | (with_reducible refine Kd.C_drewN ?_ _) | (with_reducible refine Kd.C_drew ?_))); (case side4 => exact HC0_4.out); (case side5 => repeat (first | exact (Kd.C_below HR0_6.out HB.out) | (with_reducible refine Kd.C_alloc ?_ _) | (with_reducible refine Kd.C_drewN ?_ _) | (with_reducible refine Kd.C_drew ?_))); (case side6 => exact HC0_6.out); (case side7 => repeat (first | exact (Kd.C_below HR0_9.out HB.out) | (with_reducible refine Kd.C_alloc ?_ _) | (with_reducible refine Kd.C_drewN ?_ _) | (with_reducible refine Kd.C_drew ?_))); (case side8 => exact HC0_9.out); rintro e w18 ⟨rfl, hb⟩; refine ⟨_, rfl, ?_⟩; have n0_ := iC.mk (jF (g := gb135) (o := .cells #[.int .u8 a0_0, .int .u32 a0_1, .int .u32 a0_2, .slice A0_3 l0_3.length c0_3, .slice A0_4 l0_4.length c0_4, .int .u32 a0_5, .slice A0_6 l0_6.length c0_6, .int .i64 a0_7, .int .i64 a0_8, .slice A0_9 l0_9.length c0_9] 30 (0, 0)) (bk_ BK135.out) hb); have n1_ := iC.mk (iI (by repeat (first | (with_reducible first | exact HB.out | apply iF | apply iG | apply iH | refine iJ ?_ GE135.out) | exact HB.out)) hb); clear BK135; clear HB; have BK135 := n0_; have HB := n1_; clear n0_ n1_; (try clear hb); (try clear hb2); (try clear hk); (try clear hi)))
      go_ret
      exact ⟨by first | rfl | (simp [iM, iO] <;> rfl) | (simp [*, iM, iO] <;> rfl), by repeat (first | (with_reducible first | exact HB.out | apply iF | apply iG | apply iH | refine iJ ?_ GE135.out) | exact HB.out)⟩
  · rw [if_neg c2] at H
    have c2b0 : (a0_0 == 1) = false := beq_eq_false_iff_ne.mpr c2
    have c2b1 : (a0_0 != 1) = true := bne_iff_ne.mpr c2
    by_cases c19 : a0_0 = 2
    · rw [if_pos c19] at H
      have c19b0 : (a0_0 == 2) = true := beq_iff_eq.mpr c19
      have c19b1 : (a0_0 != 2) = false := bne_eq_false_iff_eq.mpr c19
      clear c19
      replace H := Option.bind_eq_some_iff.mp H
      obtain ⟨t139, A200, H⟩ := H
      replace H : (if t139 = true then ((stratumref07_SoundNodes.f k l0_3).bind fun t140 => (some t140)) else (some false)) = some r := H
      have A20 := iC.mk A200
      clear A200
      by_cases c21 : t139 = true
      · subst c21
        have H1 : ((stratumref07_SoundNodes.f k l0_3).bind fun t140 => (some t140)) = some r := by rw [if_pos rfl] at H; exact H
        clear H
        have H := H1
        clear H1
        replace H := Option.bind_eq_some_iff.mp H
        obtain ⟨t140, A220, H⟩ := H
        replace H : (some t140) = some r := H
        have A22 := iC.mk A220
        clear A220
        obtain rfl := Option.some.inj H
        go_enter Tryd.func20, Tryd.ntmps20
        go_wp2_with (first | ((with_reducible refine jS (N := 1) rfl ?_); refine jI ?hg (N := 1) ?hd (cs := #[.int .u8 a0_0, .int .u32 a0_1, .int .u32 a0_2, .slice A0_3 l0_3.length c0_3, .slice A0_4 l0_4.length c0_4, .int .u32 a0_5, .slice A0_6 l0_6.length c0_6, .int .i64 a0_7, .int .i64 a0_8, .slice A0_9 l0_9.length c0_9]) (t := 30) ?hr ?_; (case hd => rfl); (case hg => rfl); (case hr => first | (go_simp; done) | (go_simp; rfl)); intro gb135 hg w23 hbox hb; have n0_ := iC.mk (iI hb_ hb); have n1_ := iC.mk (hbox); have n2_ := iC.mk ((by rw [hg]; exact (iQ hb_) : w.heap.size ≤ gb135)); have n3_ := iC.mk ((by rw [hg]; exact (iQ hb_) : w.heap.size ≤ gb135)); clear HB; have HB := n0_; have BK135 := n1_; have GW135 := n2_; have GE135 := n3_; clear n0_ n1_ n2_ n3_; clear hb hbox hg; have hcz24_0 : w23.cell? ⟨gb135, 0, none⟩ = some (.int .u8 a0_0) := (iE BK135.out 0).trans rfl; have hcz24_1 : w23.cell? ⟨gb135, 1, none⟩ = some (.int .u32 a0_1) := (iE BK135.out 1).trans rfl; have hcz24_2 : w23.cell? ⟨gb135, 2, none⟩ = some (.int .u32 a0_2) := (iE BK135.out 2).trans rfl; have hcz24_3 : w23.cell? ⟨gb135, 3, none⟩ = some (.slice A0_3 l0_3.length c0_3) := (iE BK135.out 3).trans rfl; have hcz24_4 : w23.cell? ⟨gb135, 4, none⟩ = some (.slice A0_4 l0_4.length c0_4) := (iE BK135.out 4).trans rfl; have hcz24_5 : w23.cell? ⟨gb135, 5, none⟩ = some (.int .u32 a0_5) := (iE BK135.out 5).trans rfl; have hcz24_6 : w23.cell? ⟨gb135, 6, none⟩ = some (.slice A0_6 l0_6.length c0_6) := (iE BK135.out 6).trans rfl; have hcz24_7 : w23.cell? ⟨gb135, 7, none⟩ = some (.int .i64 a0_7) := (iE BK135.out 7).trans rfl; have hcz24_8 : w23.cell? ⟨gb135, 8, none⟩ = some (.int .i64 a0_8) := (iE BK135.out 8).trans rfl; have hcz24_9 : w23.cell? ⟨gb135, 9, none⟩ = some (.slice A0_9 l0_9.length c0_9) := (iE BK135.out 9).trans rfl; have hfz24_0 := iD BK135.out 0; have hfz24_1 := iD BK135.out 1; have hfz24_2 := iD BK135.out 2; have hfz24_3 := iD BK135.out 3; have hfz24_4 := iD BK135.out 4; have hfz24_5 := iD BK135.out 5; have hfz24_6 := iD BK135.out 6; have hfz24_7 := iD BK135.out 7; have hfz24_8 := iD BK135.out 8; have hfz24_9 := iD BK135.out 9) | ((with_reducible refine jK (f := 68) rfl ?_); refine lV (some 22) rfl rfl Tryd.func68 (by kernel_rfl) rfl #[.agg #[.int .u8 a0_0, .int .u32 a0_1, .int .u32 a0_2, .slice A0_3 l0_3.length c0_3, .slice A0_4 l0_4.length c0_4, .int .u32 a0_5, .slice A0_6 l0_6.length c0_6, .int .i64 a0_7, .int .i64 a0_8, .slice A0_9 l0_9.length c0_9], .string (⟨#[73, 65, 78]⟩ : ByteArray)] rfl (by (try simp only [List.map_toArray, List.map_cons, List.map_nil]); first | done | rfl | (simp only [List.length_drop, List.length_take]; rfl)) ?_; (with_reducible refine (stratumref07_bare.calls a0_0 a0_1 a0_2 _ _ l0_3 _ _ l0_4 a0_5 _ _ l0_6 a0_7 a0_8 _ _ l0_9 (⟨#[73, 65, 78]⟩ : ByteArray) true _ ?side1 ?side2 ?side3 ?side4 ?side5 ?side6 ?side7 ?side8 A20.out).mono ?_); (case side1 => repeat (first | exact (Kd.C_below HR0_3.out HB.out) | (with_reducible refine Kd.C_alloc ?_ _) | (with_reducible refine Kd.C_drewN ?_ _) | (with_reducible refine Kd.C_drew ?_))); (case side2 => exact HC0_3.out); (case side3 => repeat (first | exact (Kd.C_below HR0_4.out HB.out) | (with_reducible refine Kd.C_alloc ?_ _) | (with_reducible refine Kd.C_drewN ?_ _) | (with_reducible refine Kd.C_drew ?_))); (case side4 => exact HC0_4.out); (case side5 => repeat (first | exact (Kd.C_below HR0_6.out HB.out) | (with_reducible refine Kd.C_alloc ?_ _) | (with_reducible refine Kd.C_drewN ?_ _) | (with_reducible refine Kd.C_drew ?_))); (case side6 => exact HC0_6.out); (case side7 => repeat (first | exact (Kd.C_below HR0_9.out HB.out) | (with_reducible refine Kd.C_alloc ?_ _) | (with_reducible refine Kd.C_drewN ?_ _) | (with_reducible refine Kd.C_drew ?_))); (case side8 => exact HC0_9.out); rintro e w25 ⟨rfl, hb⟩; refine ⟨_, rfl, ?_⟩; have n0_ := iC.mk (jF (g := gb135) (o := .cells #[.int .u8 a0_0, .int .u32 a0_1, .int .u32 a0_2, .slice A0_3 l0_3.length c0_3, .slice A0_4 l0_4.length c0_4, .int .u32 a0_5, .slice A0_6 l0_6.length c0_6, .int .i64 a0_7, .int .i64 a0_8, .slice A0_9 l0_9.length c0_9] 30 (0, 0)) (bk_ BK135.out) hb); have n1_ := iC.mk (iI (by repeat (first | (with_reducible first | exact HB.out | apply iF | apply iG | apply iH | refine iJ ?_ GE135.out) | exact HB.out)) hb); clear BK135; clear HB; have BK135 := n0_; have HB := n1_; clear n0_ n1_; (try clear hb); (try clear hb2); (try clear hk); (try clear hi); have hcz26_0 : w25.cell? ⟨gb135, 0, none⟩ = some (.int .u8 a0_0) := (iE BK135.out 0).trans rfl; have hcz26_1 : w25.cell? ⟨gb135, 1, none⟩ = some (.int .u32 a0_1) := (iE BK135.out 1).trans rfl; have hcz26_2 : w25.cell? ⟨gb135, 2, none⟩ = some (.int .u32 a0_2) := (iE BK135.out 2).trans rfl; have hcz26_3 : w25.cell? ⟨gb135, 3, none⟩ = some (.slice A0_3 l0_3.length c0_3) := (iE BK135.out 3).trans rfl; have hcz26_4 : w25.cell? ⟨gb135, 4, none⟩ = some (.slice A0_4 l0_4.length c0_4) := (iE BK135.out 4).trans rfl; have hcz26_5 : w25.cell? ⟨gb135, 5, none⟩ = some (.int .u32 a0_5) := (iE BK135.out 5).trans rfl; have hcz26_6 : w25.cell? ⟨gb135, 6, none⟩ = some (.slice A0_6 l0_6.length c0_6) := (iE BK135.out 6).trans rfl; have hcz26_7 : w25.cell? ⟨gb135, 7, none⟩ = some (.int .i64 a0_7) := (iE BK135.out 7).trans rfl; have hcz26_8 : w25.cell? ⟨gb135, 8, none⟩ = some (.int .i64 a0_8) := (iE BK135.out 8).trans rfl; have hcz26_9 : w25.cell? ⟨gb135, 9, none⟩ = some (.slice A0_9 l0_9.length c0_9) := (iE BK135.out 9).trans rfl; have hfz26_0 := iD BK135.out 0; have hfz26_1 := iD BK135.out 1; have hfz26_2 := iD BK135.out 2; have hfz26_3 := iD BK135.out 3; have hfz26_4 := iD BK135.out 4; have hfz26_5 := iD BK135.out 5; have hfz26_6 := iD BK135.out 6; have hfz26_7 := iD BK135.out 7; have hfz26_8 := iD BK135.out 8; have hfz26_9 := iD BK135.out 9) | (go_at_call 69; (with_reducible refine (stratumref07_SoundNodes.calls k _ _ l0_3 t140 _ ?side1 ?side2 A22.out).mono ?_); (case side1 => repeat (first | exact (Kd.C_below HR0_3.out HB.out) | (with_reducible refine Kd.C_alloc ?_ _) | (with_reducible refine Kd.C_drewN ?_ _) | (with_reducible refine Kd.C_drew ?_))); (case side2 => exact HC0_3.out); rintro e w' ⟨rfl, ⟨nd, rfl⟩⟩))
        go_ret
        exact ⟨by first | rfl | (simp [iM, iO] <;> rfl) | (simp [*, iM, iO] <;> rfl), by repeat (first | (with_reducible first | exact HB.out | apply iF | apply iG | apply iH | refine iJ ?_ GE135.out) | exact HB.out)⟩
      · replace c21 := Bool.eq_false_iff.mpr c21
        subst c21
        have H1 : (some false) = some r := by rw [if_neg (show ¬ (false = true) by decide)] at H; exact H
        clear H
        have H := H1
        clear H1
        obtain rfl := Option.some.inj H
        go_enter Tryd.func20, Tryd.ntmps20
        go_wp2_with (first | ((with_reducible refine jS (N := 1) rfl ?_); refine jI ?hg (N := 1) ?hd (cs := #[.int .u8 a0_0, .int .u32 a0_1, .int .u32 a0_2, .slice A0_3 l0_3.length c0_3, .slice A0_4 l0_4.length c0_4, .int .u32 a0_5, .slice A0_6 l0_6.length c0_6, .int .i64 a0_7, .int .i64 a0_8, .slice A0_9 l0_9.length c0_9]) (t := 30) ?hr ?_; (case hd => rfl); (case hg => rfl); (case hr => first | (go_simp; done) | (go_simp; rfl)); intro gb135 hg w27 hbox hb; have n0_ := iC.mk (iI hb_ hb); have n1_ := iC.mk (hbox); have n2_ := iC.mk ((by rw [hg]; exact (iQ hb_) : w.heap.size ≤ gb135)); have n3_ := iC.mk ((by rw [hg]; exact (iQ hb_) : w.heap.size ≤ gb135)); clear HB; have HB := n0_; have BK135 := n1_; have GW135 := n2_; have GE135 := n3_; clear n0_ n1_ n2_ n3_; clear hb hbox hg; have hcz28_0 : w27.cell? ⟨gb135, 0, none⟩ = some (.int .u8 a0_0) := (iE BK135.out 0).trans rfl; have hcz28_1 : w27.cell? ⟨gb135, 1, none⟩ = some (.int .u32 a0_1) := (iE BK135.out 1).trans rfl; have hcz28_2 : w27.cell? ⟨gb135, 2, none⟩ = some (.int .u32 a0_2) := (iE BK135.out 2).trans rfl; have hcz28_3 : w27.cell? ⟨gb135, 3, none⟩ = some (.slice A0_3 l0_3.length c0_3) := (iE BK135.out 3).trans rfl; have hcz28_4 : w27.cell? ⟨gb135, 4, none⟩ = some (.slice A0_4 l0_4.length c0_4) := (iE BK135.out 4).trans rfl; have hcz28_5 : w27.cell? ⟨gb135, 5, none⟩ = some (.int .u32 a0_5) := (iE BK135.out 5).trans rfl; have hcz28_6 : w27.cell? ⟨gb135, 6, none⟩ = some (.slice A0_6 l0_6.length c0_6) := (iE BK135.out 6).trans rfl; have hcz28_7 : w27.cell? ⟨gb135, 7, none⟩ = some (.int .i64 a0_7) := (iE BK135.out 7).trans rfl; have hcz28_8 : w27.cell? ⟨gb135, 8, none⟩ = some (.int .i64 a0_8) := (iE BK135.out 8).trans rfl; have hcz28_9 : w27.cell? ⟨gb135, 9, none⟩ = some (.slice A0_9 l0_9.length c0_9) := (iE BK135.out 9).trans rfl; have hfz28_0 := iD BK135.out 0; have hfz28_1 := iD BK135.out 1; have hfz28_2 := iD BK135.out 2; have hfz28_3 := iD BK135.out 3; have hfz28_4 := iD BK135.out 4; have hfz28_5 := iD BK135.out 5; have hfz28_6 := iD BK135.out 6; have hfz28_7 := iD BK135.out 7; have hfz28_8 := iD BK135.out 8; have hfz28_9 := iD BK135.out 9) | ((with_reducible refine jK (f := 68) rfl ?_); refine lV (some 22) rfl rfl Tryd.func68 (by kernel_rfl) rfl #[.agg #[.int .u8 a0_0, .int .u32 a0_1, .int .u32 a0_2, .slice A0_3 l0_3.length c0_3, .slice A0_4 l0_4.length c0_4, .int .u32 a0_5, .slice A0_6 l0_6.length c0_6, .int .i64 a0_7, .int .i64 a0_8, .slice A0_9 l0_9.length c0_9], .string (⟨#[73, 65, 78]⟩ : ByteArray)] rfl (by (try simp only [List.map_toArray, List.map_cons, List.map_nil]); first | done | rfl | (simp only [List.length_drop, List.length_take]; rfl)) ?_; (with_reducible refine (stratumref07_bare.calls a0_0 a0_1 a0_2 _ _ l0_3 _ _ l0_4 a0_5 _ _ l0_6 a0_7 a0_8 _ _ l0_9 (⟨#[73, 65, 78]⟩ : ByteArray) false _ ?side1 ?side2 ?side3 ?side4 ?side5 ?side6 ?side7 ?side8 A20.out).mono ?_); (case side1 => repeat (first | exact (Kd.C_below HR0_3.out HB.out) | (with_reducible refine Kd.C_alloc ?_ _) | (with_reducible refine Kd.C_drewN ?_ _) | (with_reducible refine Kd.C_drew ?_))); (case side2 => exact HC0_3.out); (case side3 => repeat (first | exact (Kd.C_below HR0_4.out HB.out) | (with_reducible refine Kd.C_alloc ?_ _) | (with_reducible refine Kd.C_drewN ?_ _) | (with_reducible refine Kd.C_drew ?_))); (case side4 => exact HC0_4.out); (case side5 => repeat (first | exact (Kd.C_below HR0_6.out HB.out) | (with_reducible refine Kd.C_alloc ?_ _) | (with_reducible refine Kd.C_drewN ?_ _) | (with_reducible refine Kd.C_drew ?_))); (case side6 => exact HC0_6.out); (case side7 => repeat (first | exact (Kd.C_below HR0_9.out HB.out) | (with_reducible refine Kd.C_alloc ?_ _) | (with_reducible refine Kd.C_drewN ?_ _) | (with_reducible refine Kd.C_drew ?_))); (case side8 => exact HC0_9.out); rintro e w29 ⟨rfl, hb⟩; refine ⟨_, rfl, ?_⟩; have n0_ := iC.mk (jF (g := gb135) (o := .cells #[.int .u8 a0_0, .int .u32 a0_1, .int .u32 a0_2, .slice A0_3 l0_3.length c0_3, .slice A0_4 l0_4.length c0_4, .int .u32 a0_5, .slice A0_6 l0_6.length c0_6, .int .i64 a0_7, .int .i64 a0_8, .slice A0_9 l0_9.length c0_9] 30 (0, 0)) (bk_ BK135.out) hb); have n1_ := iC.mk (iI (by repeat (first | (with_reducible first | exact HB.out | apply iF | apply iG | apply iH | refine iJ ?_ GE135.out) | exact HB.out)) hb); clear BK135; clear HB; have BK135 := n0_; have HB := n1_; clear n0_ n1_; (try clear hb); (try clear hb2); (try clear hk); (try clear hi)))
        go_ret
        exact ⟨by first | rfl | (simp [iM, iO] <;> rfl) | (simp [*, iM, iO] <;> rfl), by repeat (first | (with_reducible first | exact HB.out | apply iF | apply iG | apply iH | refine iJ ?_ GE135.out) | exact HB.out)⟩
    · rw [if_neg c19] at H
      have c19b0 : (a0_0 == 2) = false := beq_eq_false_iff_ne.mpr c19
      have c19b1 : (a0_0 != 2) = true := bne_iff_ne.mpr c19
      have HC30 := iC.mk H
      clear H
      go_enter Tryd.func20, Tryd.ntmps20
      go_upto_if 28 with (first | ((with_reducible refine jS (N := 1) rfl ?_); refine jI ?hg (N := 1) ?hd (cs := #[.int .u8 a0_0, .int .u32 a0_1, .int .u32 a0_2, .slice A0_3 l0_3.length c0_3, .slice A0_4 l0_4.length c0_4, .int .u32 a0_5, .slice A0_6 l0_6.length c0_6, .int .i64 a0_7, .int .i64 a0_8, .slice A0_9 l0_9.length c0_9]) (t := 30) ?hr ?_; (case hd => rfl); (case hg => rfl); (case hr => first | (go_simp; done) | (go_simp; rfl)); intro gb135 hg w31 hbox hb; have n0_ := iC.mk (iI hb_ hb); have n1_ := iC.mk (hbox); have n2_ := iC.mk ((by rw [hg]; exact (iQ hb_) : w.heap.size ≤ gb135)); have n3_ := iC.mk ((by rw [hg]; exact (iQ hb_) : w.heap.size ≤ gb135)); clear HB; have HB := n0_; have BK135 := n1_; have GW135 := n2_; have GE135 := n3_; clear n0_ n1_ n2_ n3_; clear hb hbox hg; have hcz32_0 : w31.cell? ⟨gb135, 0, none⟩ = some (.int .u8 a0_0) := (iE BK135.out 0).trans rfl; have hcz32_1 : w31.cell? ⟨gb135, 1, none⟩ = some (.int .u32 a0_1) := (iE BK135.out 1).trans rfl; have hcz32_2 : w31.cell? ⟨gb135, 2, none⟩ = some (.int .u32 a0_2) := (iE BK135.out 2).trans rfl; have hcz32_3 : w31.cell? ⟨gb135, 3, none⟩ = some (.slice A0_3 l0_3.length c0_3) := (iE BK135.out 3).trans rfl; have hcz32_4 : w31.cell? ⟨gb135, 4, none⟩ = some (.slice A0_4 l0_4.length c0_4) := (iE BK135.out 4).trans rfl; have hcz32_5 : w31.cell? ⟨gb135, 5, none⟩ = some (.int .u32 a0_5) := (iE BK135.out 5).trans rfl; have hcz32_6 : w31.cell? ⟨gb135, 6, none⟩ = some (.slice A0_6 l0_6.length c0_6) := (iE BK135.out 6).trans rfl; have hcz32_7 : w31.cell? ⟨gb135, 7, none⟩ = some (.int .i64 a0_7) := (iE BK135.out 7).trans rfl; have hcz32_8 : w31.cell? ⟨gb135, 8, none⟩ = some (.int .i64 a0_8) := (iE BK135.out 8).trans rfl; have hcz32_9 : w31.cell? ⟨gb135, 9, none⟩ = some (.slice A0_9 l0_9.length c0_9) := (iE BK135.out 9).trans rfl; have hfz32_0 := iD BK135.out 0; have hfz32_1 := iD BK135.out 1; have hfz32_2 := iD BK135.out 2; have hfz32_3 := iD BK135.out 3; have hfz32_4 := iD BK135.out 4; have hfz32_5 := iD BK135.out 5; have hfz32_6 := iD BK135.out 6; have hfz32_7 := iD BK135.out 7; have hfz32_8 := iD BK135.out 8; have hfz32_9 := iD BK135.out 9))
      (try simp only [Act.put, List.setIfInBounds_toArray, List.set_cons_zero, List.set_cons_succ])
      go_cut [28] (fun v28 wc => ∃ (kq : Nat) (x28_29 : Bool), v28 = .bool x28_29 ∧ iC (stratumref07_Sound.j0 kq a0_0 x28_29 a0_0 a0_1 a0_2 l0_3 l0_4 a0_5 l0_6 a0_7 a0_8 l0_9 = some r) ∧ iC (kq ≤ k) ∧ iC (wc.heap[gb135]? = some (.cells #[.int .u8 a0_0, .int .u32 a0_1, .int .u32 a0_2, (.slice A0_3 l0_3.length c0_3), (.slice A0_4 l0_4.length c0_4), .int .u32 a0_5, (.slice A0_6 l0_6.length c0_6), .int .i64 a0_7, .int .i64 a0_8, (.slice A0_9 l0_9.length c0_9)] 30 (0, 0))) ∧ iC (Below w.heap.size w wc))
      case first =>
        have H := HC30.out
        clear HC30
        by_cases c33 : a0_0 = 3
        · rw [if_pos c33] at H
          have c33b0 : (a0_0 == 3) = true := beq_iff_eq.mpr c33
          have c33b1 : (a0_0 != 3) = false := bne_eq_false_iff_eq.mpr c33
          clear c33
          (first | rw [c33b0] | (simp only [iY, jB]; rw [c33b0]) | skip)
          have H' := iC.mk H
          clear H
          go_wp2
          go_meet
          case rel => exact ⟨_, ((a0_0 == 3)), (by first | rfl | (simp; done) | (simp [*]; done)), H', ⟨by first | omega | exact Nat.le_refl _⟩, ⟨bk_ BK135.out⟩, ⟨by repeat (first | (with_reducible first | exact HB.out | apply iF | apply iG | apply iH | refine iJ ?_ GE135.out) | exact HB.out)⟩⟩
        · rw [if_neg c33] at H
          have c33b0 : (a0_0 == 3) = false := beq_eq_false_iff_ne.mpr c33
          have c33b1 : (a0_0 != 3) = true := bne_iff_ne.mpr c33
          (first | rw [c33b0] | (simp only [iY, jB]; rw [c33b0]) | skip)
          by_cases c34 : a0_0 = 4
          · rw [if_pos c34] at H
            have c34b0 : (a0_0 == 4) = true := beq_iff_eq.mpr c34
            have c34b1 : (a0_0 != 4) = false := bne_eq_false_iff_eq.mpr c34
            clear c34
            have H' := iC.mk H
            clear H
            go_wp2
            go_meet
            case rel => exact ⟨_, ((a0_0 == 4)), (by first | rfl | (simp; done) | (simp [*]; done)), H', ⟨by first | omega | exact Nat.le_refl _⟩, ⟨bk_ BK135.out⟩, ⟨by repeat (first | (with_reducible first | exact HB.out | apply iF | apply iG | apply iH | refine iJ ?_ GE135.out) | exact HB.out)⟩⟩
          · rw [if_neg c34] at H
            have c34b0 : (a0_0 == 4) = false := beq_eq_false_iff_ne.mpr c34
            have c34b1 : (a0_0 != 4) = true := bne_iff_ne.mpr c34
            have H' := iC.mk H
            clear H
            go_wp2
            go_meet
            case rel => exact ⟨_, ((a0_0 == 5)), (by first | rfl | (simp; done) | (simp [*]; done)), H', ⟨by first | omega | exact Nat.le_refl _⟩, ⟨bk_ BK135.out⟩, ⟨by repeat (first | (with_reducible first | exact HB.out | apply iF | apply iG | apply iH | refine iJ ?_ GE135.out) | exact HB.out)⟩⟩
      case rest =>
        clear HC30
        try clear c1
        try clear c2
        try clear c2b0
        try clear c2b1
        try clear p2
        try clear c3
        try clear c4
        try clear c6
        try clear c19
        try clear c19b0
        try clear c19b1
        try clear c20
        try clear c21
        try clear c33
        try clear c33b0
        try clear c33b1
        try clear c34
        try clear c34b0
        try clear c34b1
        try clear hcz11_0
        try clear hcz11_1
        try clear hcz11_2
        try clear hcz11_3
        try clear hcz11_4
        try clear hcz11_5
        try clear hcz11_6
        try clear hcz11_7
        try clear hcz11_8
        try clear hcz11_9
        try clear hcz13_0
        try clear hcz13_1
        try clear hcz13_2
        try clear hcz13_3
        try clear hcz13_4
        try clear hcz13_5
        try clear hcz13_6
        try clear hcz13_7
        try clear hcz13_8
        try clear hcz13_9
        try clear hcz15_0
        try clear hcz15_1
        try clear hcz15_2
        try clear hcz15_3
        try clear hcz15_4
        try clear hcz15_5
        try clear hcz15_6
        try clear hcz15_7
        try clear hcz15_8
        try clear hcz15_9
        try clear hcz17_0
        try clear hcz17_1
        try clear hcz17_2
        try clear hcz17_3
        try clear hcz17_4
        try clear hcz17_5
        try clear hcz17_6
        try clear hcz17_7
        try clear hcz17_8
        try clear hcz17_9
        try clear hcz24_0
        try clear hcz24_1
        try clear hcz24_2
        try clear hcz24_3
        try clear hcz24_4
        try clear hcz24_5
        try clear hcz24_6
        try clear hcz24_7
        try clear hcz24_8
        try clear hcz24_9
        try clear hcz26_0
        try clear hcz26_1
        try clear hcz26_2
        try clear hcz26_3
        try clear hcz26_4
        try clear hcz26_5
        try clear hcz26_6
        try clear hcz26_7
        try clear hcz26_8
        try clear hcz26_9
        try clear hcz28_0
        try clear hcz28_1
        try clear hcz28_2
        try clear hcz28_3
        try clear hcz28_4
        try clear hcz28_5
        try clear hcz28_6
        try clear hcz28_7
        try clear hcz28_8
        try clear hcz28_9
        try clear hcz32_0
        try clear hcz32_1
        try clear hcz32_2
        try clear hcz32_3
        try clear hcz32_4
        try clear hcz32_5
        try clear hcz32_6
        try clear hcz32_7
        try clear hcz32_8
        try clear hcz32_9
        try clear hcz9_0
        try clear hcz9_1
        try clear hcz9_2
        try clear hcz9_3
        try clear hcz9_4
        try clear hcz9_5
        try clear hcz9_6
        try clear hcz9_7
        try clear hcz9_8
        try clear hcz9_9
        try clear hfz11_0
        try clear hfz11_1
        try clear hfz11_2
        try clear hfz11_3
        try clear hfz11_4
        try clear hfz11_5
        try clear hfz11_6
        try clear hfz11_7
        try clear hfz11_8
        try clear hfz11_9
        try clear hfz13_0
        try clear hfz13_1
        try clear hfz13_2
        try clear hfz13_3
        try clear hfz13_4
        try clear hfz13_5
        try clear hfz13_6
        try clear hfz13_7
        try clear hfz13_8
        try clear hfz13_9
        try clear hfz15_0
        try clear hfz15_1
        try clear hfz15_2
        try clear hfz15_3
        try clear hfz15_4
        try clear hfz15_5
        try clear hfz15_6
        try clear hfz15_7
        try clear hfz15_8
        try clear hfz15_9
        try clear hfz17_0
        try clear hfz17_1
        try clear hfz17_2
        try clear hfz17_3
        try clear hfz17_4
        try clear hfz17_5
        try clear hfz17_6
        try clear hfz17_7
        try clear hfz17_8
        try clear hfz17_9
        try clear hfz24_0
        try clear hfz24_1
        try clear hfz24_2
        try clear hfz24_3
        try clear hfz24_4
        try clear hfz24_5
        try clear hfz24_6
        try clear hfz24_7
        try clear hfz24_8
        try clear hfz24_9
        try clear hfz26_0
        try clear hfz26_1
        try clear hfz26_2
        try clear hfz26_3
        try clear hfz26_4
        try clear hfz26_5
        try clear hfz26_6
        try clear hfz26_7
        try clear hfz26_8
        try clear hfz26_9
        try clear hfz28_0
        try clear hfz28_1
        try clear hfz28_2
        try clear hfz28_3
        try clear hfz28_4
        try clear hfz28_5
        try clear hfz28_6
        try clear hfz28_7
        try clear hfz28_8
        try clear hfz28_9
        try clear hfz32_0
        try clear hfz32_1
        try clear hfz32_2
        try clear hfz32_3
        try clear hfz32_4
        try clear hfz32_5
        try clear hfz32_6
        try clear hfz32_7
        try clear hfz32_8
        try clear hfz32_9
        try clear hfz9_0
        try clear hfz9_1
        try clear hfz9_2
        try clear hfz9_3
        try clear hfz9_4
        try clear hfz9_5
        try clear hfz9_6
        try clear hfz9_7
        try clear hfz9_8
        try clear hfz9_9
        obtain ⟨kq, x28_29, rfl, HA, HJ29, BK135, HB⟩ := hcut
        cases kq with
        | zero => exact absurd HA.out (by simp [stratumref07_Sound.j0])
        | succ kj29 =>
          have H := HA.out
          clear HA
          simp only [stratumref07_Sound.j0] at H
          by_cases c35 : x28_29 = true
          · subst c35
            have H1 : ((stratumref07_bare.f a0_0 a0_1 a0_2 l0_3 l0_4 a0_5 l0_6 a0_7 a0_8 l0_9 (⟨#[73]⟩ : ByteArray)).bind fun t141 => (some t141)) = some r := by rw [if_pos rfl] at H; exact H
            clear H
            have H := H1
            clear H1
            replace H := Option.bind_eq_some_iff.mp H
            obtain ⟨t141, A360, H⟩ := H
            replace H : (some t141) = some r := H
            have A36 := iC.mk A360
            clear A360
            obtain rfl := Option.some.inj H
            have hcz37_0 : wc.cell? ⟨gb135, 0, none⟩ = some (.int .u8 a0_0) := (iE BK135.out 0).trans rfl
            have hcz37_1 : wc.cell? ⟨gb135, 1, none⟩ = some (.int .u32 a0_1) := (iE BK135.out 1).trans rfl
            have hcz37_2 : wc.cell? ⟨gb135, 2, none⟩ = some (.int .u32 a0_2) := (iE BK135.out 2).trans rfl
            have hcz37_3 : wc.cell? ⟨gb135, 3, none⟩ = some (.slice A0_3 l0_3.length c0_3) := (iE BK135.out 3).trans rfl
            have hcz37_4 : wc.cell? ⟨gb135, 4, none⟩ = some (.slice A0_4 l0_4.length c0_4) := (iE BK135.out 4).trans rfl
            have hcz37_5 : wc.cell? ⟨gb135, 5, none⟩ = some (.int .u32 a0_5) := (iE BK135.out 5).trans rfl
            have hcz37_6 : wc.cell? ⟨gb135, 6, none⟩ = some (.slice A0_6 l0_6.length c0_6) := (iE BK135.out 6).trans rfl
            have hcz37_7 : wc.cell? ⟨gb135, 7, none⟩ = some (.int .i64 a0_7) := (iE BK135.out 7).trans rfl
            have hcz37_8 : wc.cell? ⟨gb135, 8, none⟩ = some (.int .i64 a0_8) := (iE BK135.out 8).trans rfl
            have hcz37_9 : wc.cell? ⟨gb135, 9, none⟩ = some (.slice A0_9 l0_9.length c0_9) := (iE BK135.out 9).trans rfl
            have hfz37_0 := iD BK135.out 0
            have hfz37_1 := iD BK135.out 1
            have hfz37_2 := iD BK135.out 2
            have hfz37_3 := iD BK135.out 3
            have hfz37_4 := iD BK135.out 4
            have hfz37_5 := iD BK135.out 5
            have hfz37_6 := iD BK135.out 6
            have hfz37_7 := iD BK135.out 7
            have hfz37_8 := iD BK135.out 8
            have hfz37_9 := iD BK135.out 9
            go_wp2_with (first | ((with_reducible refine jK (f := 68) rfl ?_); refine lV (some 33) rfl rfl Tryd.func68 (by kernel_rfl) rfl #[.agg #[.int .u8 a0_0, .int .u32 a0_1, .int .u32 a0_2, .slice A0_3 l0_3.length c0_3, .slice A0_4 l0_4.length c0_4, .int .u32 a0_5, .slice A0_6 l0_6.length c0_6, .int .i64 a0_7, .int .i64 a0_8, .slice A0_9 l0_9.length c0_9], .string (⟨#[73]⟩ : ByteArray)] rfl (by (try simp only [List.map_toArray, List.map_cons, List.map_nil]); first | done | rfl | (simp only [List.length_drop, List.length_take]; rfl)) ?_; (with_reducible refine (stratumref07_bare.calls a0_0 a0_1 a0_2 _ _ l0_3 _ _ l0_4 a0_5 _ _ l0_6 a0_7 a0_8 _ _ l0_9 (⟨#[73]⟩ : ByteArray) t141 _ ?side1 ?side2 ?side3 ?side4 ?side5 ?side6 ?side7 ?side8 A36.out).mono ?_); (case side1 => repeat (first | exact (Kd.C_below HR0_3.out HB.out) | (with_reducible refine Kd.C_alloc ?_ _) | (with_reducible refine Kd.C_drewN ?_ _) | (with_reducible refine Kd.C_drew ?_))); (case side2 => exact HC0_3.out); (case side3 => repeat (first | exact (Kd.C_below HR0_4.out HB.out) | (with_reducible refine Kd.C_alloc ?_ _) | (with_reducible refine Kd.C_drewN ?_ _) | (with_reducible refine Kd.C_drew ?_))); (case side4 => exact HC0_4.out); (case side5 => repeat (first | exact (Kd.C_below HR0_6.out HB.out) | (with_reducible refine Kd.C_alloc ?_ _) | (with_reducible refine Kd.C_drewN ?_ _) | (with_reducible refine Kd.C_drew ?_))); (case side6 => exact HC0_6.out); (case side7 => repeat (first | exact (Kd.C_below HR0_9.out HB.out) | (with_reducible refine Kd.C_alloc ?_ _) | (with_reducible refine Kd.C_drewN ?_ _) | (with_reducible refine Kd.C_drew ?_))); (case side8 => exact HC0_9.out); rintro e w38 ⟨rfl, hb⟩; refine ⟨_, rfl, ?_⟩; have n0_ := iC.mk (jF (g := gb135) (o := .cells #[.int .u8 a0_0, .int .u32 a0_1, .int .u32 a0_2, .slice A0_3 l0_3.length c0_3, .slice A0_4 l0_4.length c0_4, .int .u32 a0_5, .slice A0_6 l0_6.length c0_6, .int .i64 a0_7, .int .i64 a0_8, .slice A0_9 l0_9.length c0_9] 30 (0, 0)) (bk_ BK135.out) hb); have n1_ := iC.mk (iI (by repeat (first | (with_reducible first | exact HB.out | apply iF | apply iG | apply iH | refine iJ ?_ GE135.out) | exact HB.out)) hb); clear BK135; clear HB; have BK135 := n0_; have HB := n1_; clear n0_ n1_; (try clear hb); (try clear hb2); (try clear hk); (try clear hi)))
            go_ret
            exact ⟨by first | rfl | (simp [iM, iO] <;> rfl) | (simp [*, iM, iO] <;> rfl), by repeat (first | (with_reducible first | exact HB.out | apply iF | apply iG | apply iH | refine iJ ?_ GE135.out) | exact HB.out)⟩
          · replace c35 := Bool.eq_false_iff.mpr c35
            subst c35
            have H1 : (if a0_0 = 6 then ((stratumref07_bare.f a0_0 a0_1 a0_2 l0_3 l0_4 a0_5 l0_6 a0_7 a0_8 l0_9 (⟨#[77]⟩ : ByteArray)).bind fun t142 => (if t142 = true then ((stratumref07_spans.f kj29 l0_6).bind fun t143 => (some t143)) else (some false))) else (if a0_0 = 7 then ((stratumref07_bare.f a0_0 a0_1 a0_2 l0_3 l0_4 a0_5 l0_6 a0_7 a0_8 l0_9 (⟨#[73, 82]⟩ : ByteArray)).bind fun t144 => (if t144 = true then ((stratumref07_SoundEntries.f kj29 l0_9).bind fun t145 => (if t145 = true then (if a0_7 ≥ 0 then (if a0_7 ≤ 10000 then (if a0_8 ≥ 0 then (some (decide (a0_8 ≤ 10000))) else (some false)) else (some false)) else (some false)) else (some false))) else (some false))) else (some false))) = some r := by rw [if_neg (show ¬ (false = true) by decide)] at H; exact H
            clear H
            have H := H1
            clear H1
            by_cases c39 : a0_0 = 6
            · rw [if_pos c39] at H
              have c39b0 : (a0_0 == 6) = true := beq_iff_eq.mpr c39
              have c39b1 : (a0_0 != 6) = false := bne_eq_false_iff_eq.mpr c39
              clear c39
              replace H := Option.bind_eq_some_iff.mp H
              obtain ⟨t142, A400, H⟩ := H
              replace H : (if t142 = true then ((stratumref07_spans.f kj29 l0_6).bind fun t143 => (some t143)) else (some false)) = some r := H
              have A40 := iC.mk A400
              clear A400
              by_cases c41 : t142 = true
              · subst c41
                have H1 : ((stratumref07_spans.f kj29 l0_6).bind fun t143 => (some t143)) = some r := by rw [if_pos rfl] at H; exact H
                clear H
                have H := H1
                clear H1
                replace H := Option.bind_eq_some_iff.mp H
                obtain ⟨t143, A420, H⟩ := H
                replace H : (some t143) = some r := H
                have A42 := iC.mk A420
                clear A420
                obtain rfl := Option.some.inj H
                have hcz43_0 : wc.cell? ⟨gb135, 0, none⟩ = some (.int .u8 a0_0) := (iE BK135.out 0).trans rfl
                have hcz43_1 : wc.cell? ⟨gb135, 1, none⟩ = some (.int .u32 a0_1) := (iE BK135.out 1).trans rfl
                have hcz43_2 : wc.cell? ⟨gb135, 2, none⟩ = some (.int .u32 a0_2) := (iE BK135.out 2).trans rfl
                have hcz43_3 : wc.cell? ⟨gb135, 3, none⟩ = some (.slice A0_3 l0_3.length c0_3) := (iE BK135.out 3).trans rfl
                have hcz43_4 : wc.cell? ⟨gb135, 4, none⟩ = some (.slice A0_4 l0_4.length c0_4) := (iE BK135.out 4).trans rfl
                have hcz43_5 : wc.cell? ⟨gb135, 5, none⟩ = some (.int .u32 a0_5) := (iE BK135.out 5).trans rfl
                have hcz43_6 : wc.cell? ⟨gb135, 6, none⟩ = some (.slice A0_6 l0_6.length c0_6) := (iE BK135.out 6).trans rfl
                have hcz43_7 : wc.cell? ⟨gb135, 7, none⟩ = some (.int .i64 a0_7) := (iE BK135.out 7).trans rfl
                have hcz43_8 : wc.cell? ⟨gb135, 8, none⟩ = some (.int .i64 a0_8) := (iE BK135.out 8).trans rfl
                have hcz43_9 : wc.cell? ⟨gb135, 9, none⟩ = some (.slice A0_9 l0_9.length c0_9) := (iE BK135.out 9).trans rfl
                have hfz43_0 := iD BK135.out 0
                have hfz43_1 := iD BK135.out 1
                have hfz43_2 := iD BK135.out 2
                have hfz43_3 := iD BK135.out 3
                have hfz43_4 := iD BK135.out 4
                have hfz43_5 := iD BK135.out 5
                have hfz43_6 := iD BK135.out 6
                have hfz43_7 := iD BK135.out 7
                have hfz43_8 := iD BK135.out 8
                have hfz43_9 := iD BK135.out 9
                go_wp2_with (first | ((with_reducible refine jK (f := 68) rfl ?_); refine lV (some 37) rfl rfl Tryd.func68 (by kernel_rfl) rfl #[.agg #[.int .u8 a0_0, .int .u32 a0_1, .int .u32 a0_2, .slice A0_3 l0_3.length c0_3, .slice A0_4 l0_4.length c0_4, .int .u32 a0_5, .slice A0_6 l0_6.length c0_6, .int .i64 a0_7, .int .i64 a0_8, .slice A0_9 l0_9.length c0_9], .string (⟨#[77]⟩ : ByteArray)] rfl (by (try simp only [List.map_toArray, List.map_cons, List.map_nil]); first | done | rfl | (simp only [List.length_drop, List.length_take]; rfl)) ?_; (with_reducible refine (stratumref07_bare.calls a0_0 a0_1 a0_2 _ _ l0_3 _ _ l0_4 a0_5 _ _ l0_6 a0_7 a0_8 _ _ l0_9 (⟨#[77]⟩ : ByteArray) true _ ?side1 ?side2 ?side3 ?side4 ?side5 ?side6 ?side7 ?side8 A40.out).mono ?_); (case side1 => repeat (first | exact (Kd.C_below HR0_3.out HB.out) | (with_reducible refine Kd.C_alloc ?_ _) | (with_reducible refine Kd.C_drewN ?_ _) | (with_reducible refine Kd.C_drew ?_))); (case side2 => exact HC0_3.out); (case side3 => repeat (first | exact (Kd.C_below HR0_4.out HB.out) | (with_reducible refine Kd.C_alloc ?_ _) | (with_reducible refine Kd.C_drewN ?_ _) | (with_reducible refine Kd.C_drew ?_))); (case side4 => exact HC0_4.out); (case side5 => repeat (first | exact (Kd.C_below HR0_6.out HB.out) | (with_reducible refine Kd.C_alloc ?_ _) | (with_reducible refine Kd.C_drewN ?_ _) | (with_reducible refine Kd.C_drew ?_))); (case side6 => exact HC0_6.out); (case side7 => repeat (first | exact (Kd.C_below HR0_9.out HB.out) | (with_reducible refine Kd.C_alloc ?_ _) | (with_reducible refine Kd.C_drewN ?_ _) | (with_reducible refine Kd.C_drew ?_))); (case side8 => exact HC0_9.out); rintro e w44 ⟨rfl, hb⟩; refine ⟨_, rfl, ?_⟩; have n0_ := iC.mk (jF (g := gb135) (o := .cells #[.int .u8 a0_0, .int .u32 a0_1, .int .u32 a0_2, .slice A0_3 l0_3.length c0_3, .slice A0_4 l0_4.length c0_4, .int .u32 a0_5, .slice A0_6 l0_6.length c0_6, .int .i64 a0_7, .int .i64 a0_8, .slice A0_9 l0_9.length c0_9] 30 (0, 0)) (bk_ BK135.out) hb); have n1_ := iC.mk (iI (by repeat (first | (with_reducible first | exact HB.out | apply iF | apply iG | apply iH | refine iJ ?_ GE135.out) | exact HB.out)) hb); clear BK135; clear HB; have BK135 := n0_; have HB := n1_; clear n0_ n1_; (try clear hb); (try clear hb2); (try clear hk); (try clear hi); have hcz45_0 : w44.cell? ⟨gb135, 0, none⟩ = some (.int .u8 a0_0) := (iE BK135.out 0).trans rfl; have hcz45_1 : w44.cell? ⟨gb135, 1, none⟩ = some (.int .u32 a0_1) := (iE BK135.out 1).trans rfl; have hcz45_2 : w44.cell? ⟨gb135, 2, none⟩ = some (.int .u32 a0_2) := (iE BK135.out 2).trans rfl; have hcz45_3 : w44.cell? ⟨gb135, 3, none⟩ = some (.slice A0_3 l0_3.length c0_3) := (iE BK135.out 3).trans rfl; have hcz45_4 : w44.cell? ⟨gb135, 4, none⟩ = some (.slice A0_4 l0_4.length c0_4) := (iE BK135.out 4).trans rfl; have hcz45_5 : w44.cell? ⟨gb135, 5, none⟩ = some (.int .u32 a0_5) := (iE BK135.out 5).trans rfl; have hcz45_6 : w44.cell? ⟨gb135, 6, none⟩ = some (.slice A0_6 l0_6.length c0_6) := (iE BK135.out 6).trans rfl; have hcz45_7 : w44.cell? ⟨gb135, 7, none⟩ = some (.int .i64 a0_7) := (iE BK135.out 7).trans rfl; have hcz45_8 : w44.cell? ⟨gb135, 8, none⟩ = some (.int .i64 a0_8) := (iE BK135.out 8).trans rfl; have hcz45_9 : w44.cell? ⟨gb135, 9, none⟩ = some (.slice A0_9 l0_9.length c0_9) := (iE BK135.out 9).trans rfl; have hfz45_0 := iD BK135.out 0; have hfz45_1 := iD BK135.out 1; have hfz45_2 := iD BK135.out 2; have hfz45_3 := iD BK135.out 3; have hfz45_4 := iD BK135.out 4; have hfz45_5 := iD BK135.out 5; have hfz45_6 := iD BK135.out 6; have hfz45_7 := iD BK135.out 7; have hfz45_8 := iD BK135.out 8; have hfz45_9 := iD BK135.out 9) | (go_at_call 71; (with_reducible refine (stratumref07_spans.calls kj29 _ _ l0_6 t143 _ ?side1 ?side2 A42.out).mono ?_); (case side1 => repeat (first | exact (Kd.C_below HR0_6.out HB.out) | (with_reducible refine Kd.C_alloc ?_ _) | (with_reducible refine Kd.C_drewN ?_ _) | (with_reducible refine Kd.C_drew ?_))); (case side2 => exact HC0_6.out); rintro e w' ⟨rfl, ⟨nd, rfl⟩⟩))
                go_ret
                exact ⟨by first | rfl | (simp [iM, iO] <;> rfl) | (simp [*, iM, iO] <;> rfl), by repeat (first | (with_reducible first | exact HB.out | apply iF | apply iG | apply iH | refine iJ ?_ GE135.out) | exact HB.out)⟩
              · replace c41 := Bool.eq_false_iff.mpr c41
                subst c41
                have H1 : (some false) = some r := by rw [if_neg (show ¬ (false = true) by decide)] at H; exact H
                clear H
                have H := H1
                clear H1
                obtain rfl := Option.some.inj H
                have hcz46_0 : wc.cell? ⟨gb135, 0, none⟩ = some (.int .u8 a0_0) := (iE BK135.out 0).trans rfl
                have hcz46_1 : wc.cell? ⟨gb135, 1, none⟩ = some (.int .u32 a0_1) := (iE BK135.out 1).trans rfl
                have hcz46_2 : wc.cell? ⟨gb135, 2, none⟩ = some (.int .u32 a0_2) := (iE BK135.out 2).trans rfl
                have hcz46_3 : wc.cell? ⟨gb135, 3, none⟩ = some (.slice A0_3 l0_3.length c0_3) := (iE BK135.out 3).trans rfl
                have hcz46_4 : wc.cell? ⟨gb135, 4, none⟩ = some (.slice A0_4 l0_4.length c0_4) := (iE BK135.out 4).trans rfl
                have hcz46_5 : wc.cell? ⟨gb135, 5, none⟩ = some (.int .u32 a0_5) := (iE BK135.out 5).trans rfl
                have hcz46_6 : wc.cell? ⟨gb135, 6, none⟩ = some (.slice A0_6 l0_6.length c0_6) := (iE BK135.out 6).trans rfl
                have hcz46_7 : wc.cell? ⟨gb135, 7, none⟩ = some (.int .i64 a0_7) := (iE BK135.out 7).trans rfl
                have hcz46_8 : wc.cell? ⟨gb135, 8, none⟩ = some (.int .i64 a0_8) := (iE BK135.out 8).trans rfl
                have hcz46_9 : wc.cell? ⟨gb135, 9, none⟩ = some (.slice A0_9 l0_9.length c0_9) := (iE BK135.out 9).trans rfl
                have hfz46_0 := iD BK135.out 0
                have hfz46_1 := iD BK135.out 1
                have hfz46_2 := iD BK135.out 2
                have hfz46_3 := iD BK135.out 3
                have hfz46_4 := iD BK135.out 4
                have hfz46_5 := iD BK135.out 5
                have hfz46_6 := iD BK135.out 6
                have hfz46_7 := iD BK135.out 7
                have hfz46_8 := iD BK135.out 8
                have hfz46_9 := iD BK135.out 9
                go_wp2_with (first | ((with_reducible refine jK (f := 68) rfl ?_); refine lV (some 37) rfl rfl Tryd.func68 (by kernel_rfl) rfl #[.agg #[.int .u8 a0_0, .int .u32 a0_1, .int .u32 a0_2, .slice A0_3 l0_3.length c0_3, .slice A0_4 l0_4.length c0_4, .int .u32 a0_5, .slice A0_6 l0_6.length c0_6, .int .i64 a0_7, .int .i64 a0_8, .slice A0_9 l0_9.length c0_9], .string (⟨#[77]⟩ : ByteArray)] rfl (by (try simp only [List.map_toArray, List.map_cons, List.map_nil]); first | done | rfl | (simp only [List.length_drop, List.length_take]; rfl)) ?_; (with_reducible refine (stratumref07_bare.calls a0_0 a0_1 a0_2 _ _ l0_3 _ _ l0_4 a0_5 _ _ l0_6 a0_7 a0_8 _ _ l0_9 (⟨#[77]⟩ : ByteArray) false _ ?side1 ?side2 ?side3 ?side4 ?side5 ?side6 ?side7 ?side8 A40.out).mono ?_); (case side1 => repeat (first | exact (Kd.C_below HR0_3.out HB.out) | (with_reducible refine Kd.C_alloc ?_ _) | (with_reducible refine Kd.C_drewN ?_ _) | (with_reducible refine Kd.C_drew ?_))); (case side2 => exact HC0_3.out); (case side3 => repeat (first | exact (Kd.C_below HR0_4.out HB.out) | (with_reducible refine Kd.C_alloc ?_ _) | (with_reducible refine Kd.C_drewN ?_ _) | (with_reducible refine Kd.C_drew ?_))); (case side4 => exact HC0_4.out); (case side5 => repeat (first | exact (Kd.C_below HR0_6.out HB.out) | (with_reducible refine Kd.C_alloc ?_ _) | (with_reducible refine Kd.C_drewN ?_ _) | (with_reducible refine Kd.C_drew ?_))); (case side6 => exact HC0_6.out); (case side7 => repeat (first | exact (Kd.C_below HR0_9.out HB.out) | (with_reducible refine Kd.C_alloc ?_ _) | (with_reducible refine Kd.C_drewN ?_ _) | (with_reducible refine Kd.C_drew ?_))); (case side8 => exact HC0_9.out); rintro e w47 ⟨rfl, hb⟩; refine ⟨_, rfl, ?_⟩; have n0_ := iC.mk (jF (g := gb135) (o := .cells #[.int .u8 a0_0, .int .u32 a0_1, .int .u32 a0_2, .slice A0_3 l0_3.length c0_3, .slice A0_4 l0_4.length c0_4, .int .u32 a0_5, .slice A0_6 l0_6.length c0_6, .int .i64 a0_7, .int .i64 a0_8, .slice A0_9 l0_9.length c0_9] 30 (0, 0)) (bk_ BK135.out) hb); have n1_ := iC.mk (iI (by repeat (first | (with_reducible first | exact HB.out | apply iF | apply iG | apply iH | refine iJ ?_ GE135.out) | exact HB.out)) hb); clear BK135; clear HB; have BK135 := n0_; have HB := n1_; clear n0_ n1_; (try clear hb); (try clear hb2); (try clear hk); (try clear hi)))
                go_ret
                exact ⟨by first | rfl | (simp [iM, iO] <;> rfl) | (simp [*, iM, iO] <;> rfl), by repeat (first | (with_reducible first | exact HB.out | apply iF | apply iG | apply iH | refine iJ ?_ GE135.out) | exact HB.out)⟩
            · rw [if_neg c39] at H
              have c39b0 : (a0_0 == 6) = false := beq_eq_false_iff_ne.mpr c39
              have c39b1 : (a0_0 != 6) = true := bne_iff_ne.mpr c39
              by_cases c48 : a0_0 = 7
              · rw [if_pos c48] at H
                have c48b0 : (a0_0 == 7) = true := beq_iff_eq.mpr c48
                have c48b1 : (a0_0 != 7) = false := bne_eq_false_iff_eq.mpr c48
                clear c48
                replace H := Option.bind_eq_some_iff.mp H
                obtain ⟨t144, A490, H⟩ := H
                replace H : (if t144 = true then ((stratumref07_SoundEntries.f kj29 l0_9).bind fun t145 => (if t145 = true then (if a0_7 ≥ 0 then (if a0_7 ≤ 10000 then (if a0_8 ≥ 0 then (some (decide (a0_8 ≤ 10000))) else (some false)) else (some false)) else (some false)) else (some false))) else (some false)) = some r := H
                have A49 := iC.mk A490
                clear A490
                by_cases c50 : t144 = true
                · subst c50
                  have H1 : ((stratumref07_SoundEntries.f kj29 l0_9).bind fun t145 => (if t145 = true then (if a0_7 ≥ 0 then (if a0_7 ≤ 10000 then (if a0_8 ≥ 0 then (some (decide (a0_8 ≤ 10000))) else (some false)) else (some false)) else (some false)) else (some false))) = some r := by rw [if_pos rfl] at H; exact H
                  clear H
                  have H := H1
                  clear H1
                  replace H := Option.bind_eq_some_iff.mp H
                  obtain ⟨t145, A510, H⟩ := H
                  replace H : (if t145 = true then (if a0_7 ≥ 0 then (if a0_7 ≤ 10000 then (if a0_8 ≥ 0 then (some (decide (a0_8 ≤ 10000))) else (some false)) else (some false)) else (some false)) else (some false)) = some r := H
                  have A51 := iC.mk A510
                  clear A510
                  by_cases c52 : t145 = true
                  · subst c52
                    have H1 : (if a0_7 ≥ 0 then (if a0_7 ≤ 10000 then (if a0_8 ≥ 0 then (some (decide (a0_8 ≤ 10000))) else (some false)) else (some false)) else (some false)) = some r := by rw [if_pos rfl] at H; exact H
                    clear H
                    have H := H1
                    clear H1
                    by_cases c53 : a0_7 ≥ 0
                    · rw [if_pos c53] at H
                      have c53b0 : decide (0 ≤ a0_7) = true := decide_eq_true c53
                      clear c53
                      by_cases c54 : a0_7 ≤ 10000
                      · rw [if_pos c54] at H
                        have c54b0 : decide (a0_7 ≤ 10000) = true := decide_eq_true c54
                        clear c54
                        by_cases c55 : a0_8 ≥ 0
                        · rw [if_pos c55] at H
                          have c55b0 : decide (0 ≤ a0_8) = true := decide_eq_true c55
                          clear c55
                          obtain rfl := Option.some.inj H
                          have hcz56_0 : wc.cell? ⟨gb135, 0, none⟩ = some (.int .u8 a0_0) := (iE BK135.out 0).trans rfl
                          have hcz56_1 : wc.cell? ⟨gb135, 1, none⟩ = some (.int .u32 a0_1) := (iE BK135.out 1).trans rfl
                          have hcz56_2 : wc.cell? ⟨gb135, 2, none⟩ = some (.int .u32 a0_2) := (iE BK135.out 2).trans rfl
                          have hcz56_3 : wc.cell? ⟨gb135, 3, none⟩ = some (.slice A0_3 l0_3.length c0_3) := (iE BK135.out 3).trans rfl
                          have hcz56_4 : wc.cell? ⟨gb135, 4, none⟩ = some (.slice A0_4 l0_4.length c0_4) := (iE BK135.out 4).trans rfl
                          have hcz56_5 : wc.cell? ⟨gb135, 5, none⟩ = some (.int .u32 a0_5) := (iE BK135.out 5).trans rfl
                          have hcz56_6 : wc.cell? ⟨gb135, 6, none⟩ = some (.slice A0_6 l0_6.length c0_6) := (iE BK135.out 6).trans rfl
                          have hcz56_7 : wc.cell? ⟨gb135, 7, none⟩ = some (.int .i64 a0_7) := (iE BK135.out 7).trans rfl
                          have hcz56_8 : wc.cell? ⟨gb135, 8, none⟩ = some (.int .i64 a0_8) := (iE BK135.out 8).trans rfl
                          have hcz56_9 : wc.cell? ⟨gb135, 9, none⟩ = some (.slice A0_9 l0_9.length c0_9) := (iE BK135.out 9).trans rfl
                          have hfz56_0 := iD BK135.out 0
                          have hfz56_1 := iD BK135.out 1
                          have hfz56_2 := iD BK135.out 2
                          have hfz56_3 := iD BK135.out 3
                          have hfz56_4 := iD BK135.out 4
                          have hfz56_5 := iD BK135.out 5
                          have hfz56_6 := iD BK135.out 6
                          have hfz56_7 := iD BK135.out 7
                          have hfz56_8 := iD BK135.out 8
                          have hfz56_9 := iD BK135.out 9
                          go_wp2_with (first | ((with_reducible refine jK (f := 68) rfl ?_); refine lV (some 47) rfl rfl Tryd.func68 (by kernel_rfl) rfl #[.agg #[.int .u8 a0_0, .int .u32 a0_1, .int .u32 a0_2, .slice A0_3 l0_3.length c0_3, .slice A0_4 l0_4.length c0_4, .int .u32 a0_5, .slice A0_6 l0_6.length c0_6, .int .i64 a0_7, .int .i64 a0_8, .slice A0_9 l0_9.length c0_9], .string (⟨#[73, 82]⟩ : ByteArray)] rfl (by (try simp only [List.map_toArray, List.map_cons, List.map_nil]); first | done | rfl | (simp only [List.length_drop, List.length_take]; rfl)) ?_; (with_reducible refine (stratumref07_bare.calls a0_0 a0_1 a0_2 _ _ l0_3 _ _ l0_4 a0_5 _ _ l0_6 a0_7 a0_8 _ _ l0_9 (⟨#[73, 82]⟩ : ByteArray) true _ ?side1 ?side2 ?side3 ?side4 ?side5 ?side6 ?side7 ?side8 A49.out).mono ?_); (case side1 => repeat (first | exact (Kd.C_below HR0_3.out HB.out) | (with_reducible refine Kd.C_alloc ?_ _) | (with_reducible refine Kd.C_drewN ?_ _) | (with_reducible refine Kd.C_drew ?_))); (case side2 => exact HC0_3.out); (case side3 => repeat (first | exact (Kd.C_below HR0_4.out HB.out) | (with_reducible refine Kd.C_alloc ?_ _) | (with_reducible refine Kd.C_drewN ?_ _) | (with_reducible refine Kd.C_drew ?_))); (case side4 => exact HC0_4.out); (case side5 => repeat (first | exact (Kd.C_below HR0_6.out HB.out) | (with_reducible refine Kd.C_alloc ?_ _) | (with_reducible refine Kd.C_drewN ?_ _) | (with_reducible refine Kd.C_drew ?_))); (case side6 => exact HC0_6.out); (case side7 => repeat (first | exact (Kd.C_below HR0_9.out HB.out) | (with_reducible refine Kd.C_alloc ?_ _) | (with_reducible refine Kd.C_drewN ?_ _) | (with_reducible refine Kd.C_drew ?_))); (case side8 => exact HC0_9.out); rintro e w57 ⟨rfl, hb⟩; refine ⟨_, rfl, ?_⟩; have n0_ := iC.mk (jF (g := gb135) (o := .cells #[.int .u8 a0_0, .int .u32 a0_1, .int .u32 a0_2, .slice A0_3 l0_3.length c0_3, .slice A0_4 l0_4.length c0_4, .int .u32 a0_5, .slice A0_6 l0_6.length c0_6, .int .i64 a0_7, .int .i64 a0_8, .slice A0_9 l0_9.length c0_9] 30 (0, 0)) (bk_ BK135.out) hb); have n1_ := iC.mk (iI (by repeat (first | (with_reducible first | exact HB.out | apply iF | apply iG | apply iH | refine iJ ?_ GE135.out) | exact HB.out)) hb); clear BK135; clear HB; have BK135 := n0_; have HB := n1_; clear n0_ n1_; (try clear hb); (try clear hb2); (try clear hk); (try clear hi); have hcz58_0 : w57.cell? ⟨gb135, 0, none⟩ = some (.int .u8 a0_0) := (iE BK135.out 0).trans rfl; have hcz58_1 : w57.cell? ⟨gb135, 1, none⟩ = some (.int .u32 a0_1) := (iE BK135.out 1).trans rfl; have hcz58_2 : w57.cell? ⟨gb135, 2, none⟩ = some (.int .u32 a0_2) := (iE BK135.out 2).trans rfl; have hcz58_3 : w57.cell? ⟨gb135, 3, none⟩ = some (.slice A0_3 l0_3.length c0_3) := (iE BK135.out 3).trans rfl; have hcz58_4 : w57.cell? ⟨gb135, 4, none⟩ = some (.slice A0_4 l0_4.length c0_4) := (iE BK135.out 4).trans rfl; have hcz58_5 : w57.cell? ⟨gb135, 5, none⟩ = some (.int .u32 a0_5) := (iE BK135.out 5).trans rfl; have hcz58_6 : w57.cell? ⟨gb135, 6, none⟩ = some (.slice A0_6 l0_6.length c0_6) := (iE BK135.out 6).trans rfl; have hcz58_7 : w57.cell? ⟨gb135, 7, none⟩ = some (.int .i64 a0_7) := (iE BK135.out 7).trans rfl; have hcz58_8 : w57.cell? ⟨gb135, 8, none⟩ = some (.int .i64 a0_8) := (iE BK135.out 8).trans rfl; have hcz58_9 : w57.cell? ⟨gb135, 9, none⟩ = some (.slice A0_9 l0_9.length c0_9) := (iE BK135.out 9).trans rfl; have hfz58_0 := iD BK135.out 0; have hfz58_1 := iD BK135.out 1; have hfz58_2 := iD BK135.out 2; have hfz58_3 := iD BK135.out 3; have hfz58_4 := iD BK135.out 4; have hfz58_5 := iD BK135.out 5; have hfz58_6 := iD BK135.out 6; have hfz58_7 := iD BK135.out 7; have hfz58_8 := iD BK135.out 8; have hfz58_9 := iD BK135.out 9) | (go_at_call 72; (with_reducible refine (stratumref07_SoundEntries.calls kj29 _ _ l0_9 true _ ?side1 ?side2 A51.out).mono ?_); (case side1 => repeat (first | exact (Kd.C_below HR0_9.out HB.out) | (with_reducible refine Kd.C_alloc ?_ _) | (with_reducible refine Kd.C_drewN ?_ _) | (with_reducible refine Kd.C_drew ?_))); (case side2 => exact HC0_9.out); rintro e w' ⟨rfl, ⟨nd, rfl⟩⟩))
                          go_ret
                          exact ⟨by first | rfl | (simp [iM, iO] <;> rfl) | (simp [*, iM, iO] <;> rfl), by repeat (first | (with_reducible first | exact HB.out | apply iF | apply iG | apply iH | refine iJ ?_ GE135.out) | exact HB.out)⟩
                        · rw [if_neg c55] at H
                          have c55b0 : decide (0 ≤ a0_8) = false := decide_eq_false c55
                          clear c55
                          obtain rfl := Option.some.inj H
                          have hcz59_0 : wc.cell? ⟨gb135, 0, none⟩ = some (.int .u8 a0_0) := (iE BK135.out 0).trans rfl
                          have hcz59_1 : wc.cell? ⟨gb135, 1, none⟩ = some (.int .u32 a0_1) := (iE BK135.out 1).trans rfl
                          have hcz59_2 : wc.cell? ⟨gb135, 2, none⟩ = some (.int .u32 a0_2) := (iE BK135.out 2).trans rfl
                          have hcz59_3 : wc.cell? ⟨gb135, 3, none⟩ = some (.slice A0_3 l0_3.length c0_3) := (iE BK135.out 3).trans rfl
                          have hcz59_4 : wc.cell? ⟨gb135, 4, none⟩ = some (.slice A0_4 l0_4.length c0_4) := (iE BK135.out 4).trans rfl
                          have hcz59_5 : wc.cell? ⟨gb135, 5, none⟩ = some (.int .u32 a0_5) := (iE BK135.out 5).trans rfl
                          have hcz59_6 : wc.cell? ⟨gb135, 6, none⟩ = some (.slice A0_6 l0_6.length c0_6) := (iE BK135.out 6).trans rfl
                          have hcz59_7 : wc.cell? ⟨gb135, 7, none⟩ = some (.int .i64 a0_7) := (iE BK135.out 7).trans rfl
                          have hcz59_8 : wc.cell? ⟨gb135, 8, none⟩ = some (.int .i64 a0_8) := (iE BK135.out 8).trans rfl
                          have hcz59_9 : wc.cell? ⟨gb135, 9, none⟩ = some (.slice A0_9 l0_9.length c0_9) := (iE BK135.out 9).trans rfl
                          have hfz59_0 := iD BK135.out 0
                          have hfz59_1 := iD BK135.out 1
                          have hfz59_2 := iD BK135.out 2
                          have hfz59_3 := iD BK135.out 3
                          have hfz59_4 := iD BK135.out 4
                          have hfz59_5 := iD BK135.out 5
                          have hfz59_6 := iD BK135.out 6
                          have hfz59_7 := iD BK135.out 7
                          have hfz59_8 := iD BK135.out 8
                          have hfz59_9 := iD BK135.out 9
                          go_wp2_with (first | ((with_reducible refine jK (f := 68) rfl ?_); refine lV (some 47) rfl rfl Tryd.func68 (by kernel_rfl) rfl #[.agg #[.int .u8 a0_0, .int .u32 a0_1, .int .u32 a0_2, .slice A0_3 l0_3.length c0_3, .slice A0_4 l0_4.length c0_4, .int .u32 a0_5, .slice A0_6 l0_6.length c0_6, .int .i64 a0_7, .int .i64 a0_8, .slice A0_9 l0_9.length c0_9], .string (⟨#[73, 82]⟩ : ByteArray)] rfl (by (try simp only [List.map_toArray, List.map_cons, List.map_nil]); first | done | rfl | (simp only [List.length_drop, List.length_take]; rfl)) ?_; (with_reducible refine (stratumref07_bare.calls a0_0 a0_1 a0_2 _ _ l0_3 _ _ l0_4 a0_5 _ _ l0_6 a0_7 a0_8 _ _ l0_9 (⟨#[73, 82]⟩ : ByteArray) true _ ?side1 ?side2 ?side3 ?side4 ?side5 ?side6 ?side7 ?side8 A49.out).mono ?_); (case side1 => repeat (first | exact (Kd.C_below HR0_3.out HB.out) | (with_reducible refine Kd.C_alloc ?_ _) | (with_reducible refine Kd.C_drewN ?_ _) | (with_reducible refine Kd.C_drew ?_))); (case side2 => exact HC0_3.out); (case side3 => repeat (first | exact (Kd.C_below HR0_4.out HB.out) | (with_reducible refine Kd.C_alloc ?_ _) | (with_reducible refine Kd.C_drewN ?_ _) | (with_reducible refine Kd.C_drew ?_))); (case side4 => exact HC0_4.out); (case side5 => repeat (first | exact (Kd.C_below HR0_6.out HB.out) | (with_reducible refine Kd.C_alloc ?_ _) | (with_reducible refine Kd.C_drewN ?_ _) | (with_reducible refine Kd.C_drew ?_))); (case side6 => exact HC0_6.out); (case side7 => repeat (first | exact (Kd.C_below HR0_9.out HB.out) | (with_reducible refine Kd.C_alloc ?_ _) | (with_reducible refine Kd.C_drewN ?_ _) | (with_reducible refine Kd.C_drew ?_))); (case side8 => exact HC0_9.out); rintro e w60 ⟨rfl, hb⟩; refine ⟨_, rfl, ?_⟩; have n0_ := iC.mk (jF (g := gb135) (o := .cells #[.int .u8 a0_0, .int .u32 a0_1, .int .u32 a0_2, .slice A0_3 l0_3.length c0_3, .slice A0_4 l0_4.length c0_4, .int .u32 a0_5, .slice A0_6 l0_6.length c0_6, .int .i64 a0_7, .int .i64 a0_8, .slice A0_9 l0_9.length c0_9] 30 (0, 0)) (bk_ BK135.out) hb); have n1_ := iC.mk (iI (by repeat (first | (with_reducible first | exact HB.out | apply iF | apply iG | apply iH | refine iJ ?_ GE135.out) | exact HB.out)) hb); clear BK135; clear HB; have BK135 := n0_; have HB := n1_; clear n0_ n1_; (try clear hb); (try clear hb2); (try clear hk); (try clear hi); have hcz61_0 : w60.cell? ⟨gb135, 0, none⟩ = some (.int .u8 a0_0) := (iE BK135.out 0).trans rfl; have hcz61_1 : w60.cell? ⟨gb135, 1, none⟩ = some (.int .u32 a0_1) := (iE BK135.out 1).trans rfl; have hcz61_2 : w60.cell? ⟨gb135, 2, none⟩ = some (.int .u32 a0_2) := (iE BK135.out 2).trans rfl; have hcz61_3 : w60.cell? ⟨gb135, 3, none⟩ = some (.slice A0_3 l0_3.length c0_3) := (iE BK135.out 3).trans rfl; have hcz61_4 : w60.cell? ⟨gb135, 4, none⟩ = some (.slice A0_4 l0_4.length c0_4) := (iE BK135.out 4).trans rfl; have hcz61_5 : w60.cell? ⟨gb135, 5, none⟩ = some (.int .u32 a0_5) := (iE BK135.out 5).trans rfl; have hcz61_6 : w60.cell? ⟨gb135, 6, none⟩ = some (.slice A0_6 l0_6.length c0_6) := (iE BK135.out 6).trans rfl; have hcz61_7 : w60.cell? ⟨gb135, 7, none⟩ = some (.int .i64 a0_7) := (iE BK135.out 7).trans rfl; have hcz61_8 : w60.cell? ⟨gb135, 8, none⟩ = some (.int .i64 a0_8) := (iE BK135.out 8).trans rfl; have hcz61_9 : w60.cell? ⟨gb135, 9, none⟩ = some (.slice A0_9 l0_9.length c0_9) := (iE BK135.out 9).trans rfl; have hfz61_0 := iD BK135.out 0; have hfz61_1 := iD BK135.out 1; have hfz61_2 := iD BK135.out 2; have hfz61_3 := iD BK135.out 3; have hfz61_4 := iD BK135.out 4; have hfz61_5 := iD BK135.out 5; have hfz61_6 := iD BK135.out 6; have hfz61_7 := iD BK135.out 7; have hfz61_8 := iD BK135.out 8; have hfz61_9 := iD BK135.out 9) | (go_at_call 72; (with_reducible refine (stratumref07_SoundEntries.calls kj29 _ _ l0_9 true _ ?side1 ?side2 A51.out).mono ?_); (case side1 => repeat (first | exact (Kd.C_below HR0_9.out HB.out) | (with_reducible refine Kd.C_alloc ?_ _) | (with_reducible refine Kd.C_drewN ?_ _) | (with_reducible refine Kd.C_drew ?_))); (case side2 => exact HC0_9.out); rintro e w' ⟨rfl, ⟨nd, rfl⟩⟩))
                          go_ret
                          exact ⟨by first | rfl | (simp [iM, iO] <;> rfl) | (simp [*, iM, iO] <;> rfl), by repeat (first | (with_reducible first | exact HB.out | apply iF | apply iG | apply iH | refine iJ ?_ GE135.out) | exact HB.out)⟩
                      · rw [if_neg c54] at H
                        have c54b0 : decide (a0_7 ≤ 10000) = false := decide_eq_false c54
                        clear c54
                        obtain rfl := Option.some.inj H
                        have hcz62_0 : wc.cell? ⟨gb135, 0, none⟩ = some (.int .u8 a0_0) := (iE BK135.out 0).trans rfl
                        have hcz62_1 : wc.cell? ⟨gb135, 1, none⟩ = some (.int .u32 a0_1) := (iE BK135.out 1).trans rfl
                        have hcz62_2 : wc.cell? ⟨gb135, 2, none⟩ = some (.int .u32 a0_2) := (iE BK135.out 2).trans rfl
                        have hcz62_3 : wc.cell? ⟨gb135, 3, none⟩ = some (.slice A0_3 l0_3.length c0_3) := (iE BK135.out 3).trans rfl
                        have hcz62_4 : wc.cell? ⟨gb135, 4, none⟩ = some (.slice A0_4 l0_4.length c0_4) := (iE BK135.out 4).trans rfl
                        have hcz62_5 : wc.cell? ⟨gb135, 5, none⟩ = some (.int .u32 a0_5) := (iE BK135.out 5).trans rfl
                        have hcz62_6 : wc.cell? ⟨gb135, 6, none⟩ = some (.slice A0_6 l0_6.length c0_6) := (iE BK135.out 6).trans rfl
                        have hcz62_7 : wc.cell? ⟨gb135, 7, none⟩ = some (.int .i64 a0_7) := (iE BK135.out 7).trans rfl
                        have hcz62_8 : wc.cell? ⟨gb135, 8, none⟩ = some (.int .i64 a0_8) := (iE BK135.out 8).trans rfl
                        have hcz62_9 : wc.cell? ⟨gb135, 9, none⟩ = some (.slice A0_9 l0_9.length c0_9) := (iE BK135.out 9).trans rfl
                        have hfz62_0 := iD BK135.out 0
                        have hfz62_1 := iD BK135.out 1
                        have hfz62_2 := iD BK135.out 2
                        have hfz62_3 := iD BK135.out 3
                        have hfz62_4 := iD BK135.out 4
                        have hfz62_5 := iD BK135.out 5
                        have hfz62_6 := iD BK135.out 6
                        have hfz62_7 := iD BK135.out 7
                        have hfz62_8 := iD BK135.out 8
                        have hfz62_9 := iD BK135.out 9
                        go_wp2_with (first | ((with_reducible refine jK (f := 68) rfl ?_); refine lV (some 47) rfl rfl Tryd.func68 (by kernel_rfl) rfl #[.agg #[.int .u8 a0_0, .int .u32 a0_1, .int .u32 a0_2, .slice A0_3 l0_3.length c0_3, .slice A0_4 l0_4.length c0_4, .int .u32 a0_5, .slice A0_6 l0_6.length c0_6, .int .i64 a0_7, .int .i64 a0_8, .slice A0_9 l0_9.length c0_9], .string (⟨#[73, 82]⟩ : ByteArray)] rfl (by (try simp only [List.map_toArray, List.map_cons, List.map_nil]); first | done | rfl | (simp only [List.length_drop, List.length_take]; rfl)) ?_; (with_reducible refine (stratumref07_bare.calls a0_0 a0_1 a0_2 _ _ l0_3 _ _ l0_4 a0_5 _ _ l0_6 a0_7 a0_8 _ _ l0_9 (⟨#[73, 82]⟩ : ByteArray) true _ ?side1 ?side2 ?side3 ?side4 ?side5 ?side6 ?side7 ?side8 A49.out).mono ?_); (case side1 => repeat (first | exact (Kd.C_below HR0_3.out HB.out) | (with_reducible refine Kd.C_alloc ?_ _) | (with_reducible refine Kd.C_drewN ?_ _) | (with_reducible refine Kd.C_drew ?_))); (case side2 => exact HC0_3.out); (case side3 => repeat (first | exact (Kd.C_below HR0_4.out HB.out) | (with_reducible refine Kd.C_alloc ?_ _) | (with_reducible refine Kd.C_drewN ?_ _) | (with_reducible refine Kd.C_drew ?_))); (case side4 => exact HC0_4.out); (case side5 => repeat (first | exact (Kd.C_below HR0_6.out HB.out) | (with_reducible refine Kd.C_alloc ?_ _) | (with_reducible refine Kd.C_drewN ?_ _) | (with_reducible refine Kd.C_drew ?_))); (case side6 => exact HC0_6.out); (case side7 => repeat (first | exact (Kd.C_below HR0_9.out HB.out) | (with_reducible refine Kd.C_alloc ?_ _) | (with_reducible refine Kd.C_drewN ?_ _) | (with_reducible refine Kd.C_drew ?_))); (case side8 => exact HC0_9.out); rintro e w63 ⟨rfl, hb⟩; refine ⟨_, rfl, ?_⟩; have n0_ := iC.mk (jF (g := gb135) (o := .cells #[.int .u8 a0_0, .int .u32 a0_1, .int .u32 a0_2, .slice A0_3 l0_3.length c0_3, .slice A0_4 l0_4.length c0_4, .int .u32 a0_5, .slice A0_6 l0_6.length c0_6, .int .i64 a0_7, .int .i64 a0_8, .slice A0_9 l0_9.length c0_9] 30 (0, 0)) (bk_ BK135.out) hb); have n1_ := iC.mk (iI (by repeat (first | (with_reducible first | exact HB.out | apply iF | apply iG | apply iH | refine iJ ?_ GE135.out) | exact HB.out)) hb); clear BK135; clear HB; have BK135 := n0_; have HB := n1_; clear n0_ n1_; (try clear hb); (try clear hb2); (try clear hk); (try clear hi); have hcz64_0 : w63.cell? ⟨gb135, 0, none⟩ = some (.int .u8 a0_0) := (iE BK135.out 0).trans rfl; have hcz64_1 : w63.cell? ⟨gb135, 1, none⟩ = some (.int .u32 a0_1) := (iE BK135.out 1).trans rfl; have hcz64_2 : w63.cell? ⟨gb135, 2, none⟩ = some (.int .u32 a0_2) := (iE BK135.out 2).trans rfl; have hcz64_3 : w63.cell? ⟨gb135, 3, none⟩ = some (.slice A0_3 l0_3.length c0_3) := (iE BK135.out 3).trans rfl; have hcz64_4 : w63.cell? ⟨gb135, 4, none⟩ = some (.slice A0_4 l0_4.length c0_4) := (iE BK135.out 4).trans rfl; have hcz64_5 : w63.cell? ⟨gb135, 5, none⟩ = some (.int .u32 a0_5) := (iE BK135.out 5).trans rfl; have hcz64_6 : w63.cell? ⟨gb135, 6, none⟩ = some (.slice A0_6 l0_6.length c0_6) := (iE BK135.out 6).trans rfl; have hcz64_7 : w63.cell? ⟨gb135, 7, none⟩ = some (.int .i64 a0_7) := (iE BK135.out 7).trans rfl; have hcz64_8 : w63.cell? ⟨gb135, 8, none⟩ = some (.int .i64 a0_8) := (iE BK135.out 8).trans rfl; have hcz64_9 : w63.cell? ⟨gb135, 9, none⟩ = some (.slice A0_9 l0_9.length c0_9) := (iE BK135.out 9).trans rfl; have hfz64_0 := iD BK135.out 0; have hfz64_1 := iD BK135.out 1; have hfz64_2 := iD BK135.out 2; have hfz64_3 := iD BK135.out 3; have hfz64_4 := iD BK135.out 4; have hfz64_5 := iD BK135.out 5; have hfz64_6 := iD BK135.out 6; have hfz64_7 := iD BK135.out 7; have hfz64_8 := iD BK135.out 8; have hfz64_9 := iD BK135.out 9) | (go_at_call 72; (with_reducible refine (stratumref07_SoundEntries.calls kj29 _ _ l0_9 true _ ?side1 ?side2 A51.out).mono ?_); (case side1 => repeat (first | exact (Kd.C_below HR0_9.out HB.out) | (with_reducible refine Kd.C_alloc ?_ _) | (with_reducible refine Kd.C_drewN ?_ _) | (with_reducible refine Kd.C_drew ?_))); (case side2 => exact HC0_9.out); rintro e w' ⟨rfl, ⟨nd, rfl⟩⟩))
                        go_ret
                        exact ⟨by first | rfl | (simp [iM, iO] <;> rfl) | (simp [*, iM, iO] <;> rfl), by repeat (first | (with_reducible first | exact HB.out | apply iF | apply iG | apply iH | refine iJ ?_ GE135.out) | exact HB.out)⟩
                    · rw [if_neg c53] at H
                      have c53b0 : decide (0 ≤ a0_7) = false := decide_eq_false c53
                      clear c53
                      obtain rfl := Option.some.inj H
                      have hcz65_0 : wc.cell? ⟨gb135, 0, none⟩ = some (.int .u8 a0_0) := (iE BK135.out 0).trans rfl
                      have hcz65_1 : wc.cell? ⟨gb135, 1, none⟩ = some (.int .u32 a0_1) := (iE BK135.out 1).trans rfl
                      have hcz65_2 : wc.cell? ⟨gb135, 2, none⟩ = some (.int .u32 a0_2) := (iE BK135.out 2).trans rfl
                      have hcz65_3 : wc.cell? ⟨gb135, 3, none⟩ = some (.slice A0_3 l0_3.length c0_3) := (iE BK135.out 3).trans rfl
                      have hcz65_4 : wc.cell? ⟨gb135, 4, none⟩ = some (.slice A0_4 l0_4.length c0_4) := (iE BK135.out 4).trans rfl
                      have hcz65_5 : wc.cell? ⟨gb135, 5, none⟩ = some (.int .u32 a0_5) := (iE BK135.out 5).trans rfl
                      have hcz65_6 : wc.cell? ⟨gb135, 6, none⟩ = some (.slice A0_6 l0_6.length c0_6) := (iE BK135.out 6).trans rfl
                      have hcz65_7 : wc.cell? ⟨gb135, 7, none⟩ = some (.int .i64 a0_7) := (iE BK135.out 7).trans rfl
                      have hcz65_8 : wc.cell? ⟨gb135, 8, none⟩ = some (.int .i64 a0_8) := (iE BK135.out 8).trans rfl
                      have hcz65_9 : wc.cell? ⟨gb135, 9, none⟩ = some (.slice A0_9 l0_9.length c0_9) := (iE BK135.out 9).trans rfl
                      have hfz65_0 := iD BK135.out 0
                      have hfz65_1 := iD BK135.out 1
                      have hfz65_2 := iD BK135.out 2
                      have hfz65_3 := iD BK135.out 3
                      have hfz65_4 := iD BK135.out 4
                      have hfz65_5 := iD BK135.out 5
                      have hfz65_6 := iD BK135.out 6
                      have hfz65_7 := iD BK135.out 7
                      have hfz65_8 := iD BK135.out 8
                      have hfz65_9 := iD BK135.out 9
                      go_wp2_with (first | ((with_reducible refine jK (f := 68) rfl ?_); refine lV (some 47) rfl rfl Tryd.func68 (by kernel_rfl) rfl #[.agg #[.int .u8 a0_0, .int .u32 a0_1, .int .u32 a0_2, .slice A0_3 l0_3.length c0_3, .slice A0_4 l0_4.length c0_4, .int .u32 a0_5, .slice A0_6 l0_6.length c0_6, .int .i64 a0_7, .int .i64 a0_8, .slice A0_9 l0_9.length c0_9], .string (⟨#[73, 82]⟩ : ByteArray)] rfl (by (try simp only [List.map_toArray, List.map_cons, List.map_nil]); first | done | rfl | (simp only [List.length_drop, List.length_take]; rfl)) ?_; (with_reducible refine (stratumref07_bare.calls a0_0 a0_1 a0_2 _ _ l0_3 _ _ l0_4 a0_5 _ _ l0_6 a0_7 a0_8 _ _ l0_9 (⟨#[73, 82]⟩ : ByteArray) true _ ?side1 ?side2 ?side3 ?side4 ?side5 ?side6 ?side7 ?side8 A49.out).mono ?_); (case side1 => repeat (first | exact (Kd.C_below HR0_3.out HB.out) | (with_reducible refine Kd.C_alloc ?_ _) | (with_reducible refine Kd.C_drewN ?_ _) | (with_reducible refine Kd.C_drew ?_))); (case side2 => exact HC0_3.out); (case side3 => repeat (first | exact (Kd.C_below HR0_4.out HB.out) | (with_reducible refine Kd.C_alloc ?_ _) | (with_reducible refine Kd.C_drewN ?_ _) | (with_reducible refine Kd.C_drew ?_))); (case side4 => exact HC0_4.out); (case side5 => repeat (first | exact (Kd.C_below HR0_6.out HB.out) | (with_reducible refine Kd.C_alloc ?_ _) | (with_reducible refine Kd.C_drewN ?_ _) | (with_reducible refine Kd.C_drew ?_))); (case side6 => exact HC0_6.out); (case side7 => repeat (first | exact (Kd.C_below HR0_9.out HB.out) | (with_reducible refine Kd.C_alloc ?_ _) | (with_reducible refine Kd.C_drewN ?_ _) | (with_reducible refine Kd.C_drew ?_))); (case side8 => exact HC0_9.out); rintro e w66 ⟨rfl, hb⟩; refine ⟨_, rfl, ?_⟩; have n0_ := iC.mk (jF (g := gb135) (o := .cells #[.int .u8 a0_0, .int .u32 a0_1, .int .u32 a0_2, .slice A0_3 l0_3.length c0_3, .slice A0_4 l0_4.length c0_4, .int .u32 a0_5, .slice A0_6 l0_6.length c0_6, .int .i64 a0_7, .int .i64 a0_8, .slice A0_9 l0_9.length c0_9] 30 (0, 0)) (bk_ BK135.out) hb); have n1_ := iC.mk (iI (by repeat (first | (with_reducible first | exact HB.out | apply iF | apply iG | apply iH | refine iJ ?_ GE135.out) | exact HB.out)) hb); clear BK135; clear HB; have BK135 := n0_; have HB := n1_; clear n0_ n1_; (try clear hb); (try clear hb2); (try clear hk); (try clear hi); have hcz67_0 : w66.cell? ⟨gb135, 0, none⟩ = some (.int .u8 a0_0) := (iE BK135.out 0).trans rfl; have hcz67_1 : w66.cell? ⟨gb135, 1, none⟩ = some (.int .u32 a0_1) := (iE BK135.out 1).trans rfl; have hcz67_2 : w66.cell? ⟨gb135, 2, none⟩ = some (.int .u32 a0_2) := (iE BK135.out 2).trans rfl; have hcz67_3 : w66.cell? ⟨gb135, 3, none⟩ = some (.slice A0_3 l0_3.length c0_3) := (iE BK135.out 3).trans rfl; have hcz67_4 : w66.cell? ⟨gb135, 4, none⟩ = some (.slice A0_4 l0_4.length c0_4) := (iE BK135.out 4).trans rfl; have hcz67_5 : w66.cell? ⟨gb135, 5, none⟩ = some (.int .u32 a0_5) := (iE BK135.out 5).trans rfl; have hcz67_6 : w66.cell? ⟨gb135, 6, none⟩ = some (.slice A0_6 l0_6.length c0_6) := (iE BK135.out 6).trans rfl; have hcz67_7 : w66.cell? ⟨gb135, 7, none⟩ = some (.int .i64 a0_7) := (iE BK135.out 7).trans rfl; have hcz67_8 : w66.cell? ⟨gb135, 8, none⟩ = some (.int .i64 a0_8) := (iE BK135.out 8).trans rfl; have hcz67_9 : w66.cell? ⟨gb135, 9, none⟩ = some (.slice A0_9 l0_9.length c0_9) := (iE BK135.out 9).trans rfl; have hfz67_0 := iD BK135.out 0; have hfz67_1 := iD BK135.out 1; have hfz67_2 := iD BK135.out 2; have hfz67_3 := iD BK135.out 3; have hfz67_4 := iD BK135.out 4; have hfz67_5 := iD BK135.out 5; have hfz67_6 := iD BK135.out 6; have hfz67_7 := iD BK135.out 7; have hfz67_8 := iD BK135.out 8; have hfz67_9 := iD BK135.out 9) | (go_at_call 72; (with_reducible refine (stratumref07_SoundEntries.calls kj29 _ _ l0_9 true _ ?side1 ?side2 A51.out).mono ?_); (case side1 => repeat (first | exact (Kd.C_below HR0_9.out HB.out) | (with_reducible refine Kd.C_alloc ?_ _) | (with_reducible refine Kd.C_drewN ?_ _) | (with_reducible refine Kd.C_drew ?_))); (case side2 => exact HC0_9.out); rintro e w' ⟨rfl, ⟨nd, rfl⟩⟩))
                      go_ret
                      exact ⟨by first | rfl | (simp [iM, iO] <;> rfl) | (simp [*, iM, iO] <;> rfl), by repeat (first | (with_reducible first | exact HB.out | apply iF | apply iG | apply iH | refine iJ ?_ GE135.out) | exact HB.out)⟩
                  · replace c52 := Bool.eq_false_iff.mpr c52
                    subst c52
                    have H1 : (some false) = some r := by rw [if_neg (show ¬ (false = true) by decide)] at H; exact H
                    clear H
                    have H := H1
                    clear H1
                    obtain rfl := Option.some.inj H
                    have hcz68_0 : wc.cell? ⟨gb135, 0, none⟩ = some (.int .u8 a0_0) := (iE BK135.out 0).trans rfl
                    have hcz68_1 : wc.cell? ⟨gb135, 1, none⟩ = some (.int .u32 a0_1) := (iE BK135.out 1).trans rfl
                    have hcz68_2 : wc.cell? ⟨gb135, 2, none⟩ = some (.int .u32 a0_2) := (iE BK135.out 2).trans rfl
                    have hcz68_3 : wc.cell? ⟨gb135, 3, none⟩ = some (.slice A0_3 l0_3.length c0_3) := (iE BK135.out 3).trans rfl
                    have hcz68_4 : wc.cell? ⟨gb135, 4, none⟩ = some (.slice A0_4 l0_4.length c0_4) := (iE BK135.out 4).trans rfl
                    have hcz68_5 : wc.cell? ⟨gb135, 5, none⟩ = some (.int .u32 a0_5) := (iE BK135.out 5).trans rfl
                    have hcz68_6 : wc.cell? ⟨gb135, 6, none⟩ = some (.slice A0_6 l0_6.length c0_6) := (iE BK135.out 6).trans rfl
                    have hcz68_7 : wc.cell? ⟨gb135, 7, none⟩ = some (.int .i64 a0_7) := (iE BK135.out 7).trans rfl
                    have hcz68_8 : wc.cell? ⟨gb135, 8, none⟩ = some (.int .i64 a0_8) := (iE BK135.out 8).trans rfl
                    have hcz68_9 : wc.cell? ⟨gb135, 9, none⟩ = some (.slice A0_9 l0_9.length c0_9) := (iE BK135.out 9).trans rfl
                    have hfz68_0 := iD BK135.out 0
                    have hfz68_1 := iD BK135.out 1
                    have hfz68_2 := iD BK135.out 2
                    have hfz68_3 := iD BK135.out 3
                    have hfz68_4 := iD BK135.out 4
                    have hfz68_5 := iD BK135.out 5
                    have hfz68_6 := iD BK135.out 6
                    have hfz68_7 := iD BK135.out 7
                    have hfz68_8 := iD BK135.out 8
                    have hfz68_9 := iD BK135.out 9
                    go_wp2_with (first | ((with_reducible refine jK (f := 68) rfl ?_); refine lV (some 47) rfl rfl Tryd.func68 (by kernel_rfl) rfl #[.agg #[.int .u8 a0_0, .int .u32 a0_1, .int .u32 a0_2, .slice A0_3 l0_3.length c0_3, .slice A0_4 l0_4.length c0_4, .int .u32 a0_5, .slice A0_6 l0_6.length c0_6, .int .i64 a0_7, .int .i64 a0_8, .slice A0_9 l0_9.length c0_9], .string (⟨#[73, 82]⟩ : ByteArray)] rfl (by (try simp only [List.map_toArray, List.map_cons, List.map_nil]); first | done | rfl | (simp only [List.length_drop, List.length_take]; rfl)) ?_; (with_reducible refine (stratumref07_bare.calls a0_0 a0_1 a0_2 _ _ l0_3 _ _ l0_4 a0_5 _ _ l0_6 a0_7 a0_8 _ _ l0_9 (⟨#[73, 82]⟩ : ByteArray) true _ ?side1 ?side2 ?side3 ?side4 ?side5 ?side6 ?side7 ?side8 A49.out).mono ?_); (case side1 => repeat (first | exact (Kd.C_below HR0_3.out HB.out) | (with_reducible refine Kd.C_alloc ?_ _) | (with_reducible refine Kd.C_drewN ?_ _) | (with_reducible refine Kd.C_drew ?_))); (case side2 => exact HC0_3.out); (case side3 => repeat (first | exact (Kd.C_below HR0_4.out HB.out) | (with_reducible refine Kd.C_alloc ?_ _) | (with_reducible refine Kd.C_drewN ?_ _) | (with_reducible refine Kd.C_drew ?_))); (case side4 => exact HC0_4.out); (case side5 => repeat (first | exact (Kd.C_below HR0_6.out HB.out) | (with_reducible refine Kd.C_alloc ?_ _) | (with_reducible refine Kd.C_drewN ?_ _) | (with_reducible refine Kd.C_drew ?_))); (case side6 => exact HC0_6.out); (case side7 => repeat (first | exact (Kd.C_below HR0_9.out HB.out) | (with_reducible refine Kd.C_alloc ?_ _) | (with_reducible refine Kd.C_drewN ?_ _) | (with_reducible refine Kd.C_drew ?_))); (case side8 => exact HC0_9.out); rintro e w69 ⟨rfl, hb⟩; refine ⟨_, rfl, ?_⟩; have n0_ := iC.mk (jF (g := gb135) (o := .cells #[.int .u8 a0_0, .int .u32 a0_1, .int .u32 a0_2, .slice A0_3 l0_3.length c0_3, .slice A0_4 l0_4.length c0_4, .int .u32 a0_5, .slice A0_6 l0_6.length c0_6, .int .i64 a0_7, .int .i64 a0_8, .slice A0_9 l0_9.length c0_9] 30 (0, 0)) (bk_ BK135.out) hb); have n1_ := iC.mk (iI (by repeat (first | (with_reducible first | exact HB.out | apply iF | apply iG | apply iH | refine iJ ?_ GE135.out) | exact HB.out)) hb); clear BK135; clear HB; have BK135 := n0_; have HB := n1_; clear n0_ n1_; (try clear hb); (try clear hb2); (try clear hk); (try clear hi); have hcz70_0 : w69.cell? ⟨gb135, 0, none⟩ = some (.int .u8 a0_0) := (iE BK135.out 0).trans rfl; have hcz70_1 : w69.cell? ⟨gb135, 1, none⟩ = some (.int .u32 a0_1) := (iE BK135.out 1).trans rfl; have hcz70_2 : w69.cell? ⟨gb135, 2, none⟩ = some (.int .u32 a0_2) := (iE BK135.out 2).trans rfl; have hcz70_3 : w69.cell? ⟨gb135, 3, none⟩ = some (.slice A0_3 l0_3.length c0_3) := (iE BK135.out 3).trans rfl; have hcz70_4 : w69.cell? ⟨gb135, 4, none⟩ = some (.slice A0_4 l0_4.length c0_4) := (iE BK135.out 4).trans rfl; have hcz70_5 : w69.cell? ⟨gb135, 5, none⟩ = some (.int .u32 a0_5) := (iE BK135.out 5).trans rfl; have hcz70_6 : w69.cell? ⟨gb135, 6, none⟩ = some (.slice A0_6 l0_6.length c0_6) := (iE BK135.out 6).trans rfl; have hcz70_7 : w69.cell? ⟨gb135, 7, none⟩ = some (.int .i64 a0_7) := (iE BK135.out 7).trans rfl; have hcz70_8 : w69.cell? ⟨gb135, 8, none⟩ = some (.int .i64 a0_8) := (iE BK135.out 8).trans rfl; have hcz70_9 : w69.cell? ⟨gb135, 9, none⟩ = some (.slice A0_9 l0_9.length c0_9) := (iE BK135.out 9).trans rfl; have hfz70_0 := iD BK135.out 0; have hfz70_1 := iD BK135.out 1; have hfz70_2 := iD BK135.out 2; have hfz70_3 := iD BK135.out 3; have hfz70_4 := iD BK135.out 4; have hfz70_5 := iD BK135.out 5; have hfz70_6 := iD BK135.out 6; have hfz70_7 := iD BK135.out 7; have hfz70_8 := iD BK135.out 8; have hfz70_9 := iD BK135.out 9) | (go_at_call 72; (with_reducible refine (stratumref07_SoundEntries.calls kj29 _ _ l0_9 false _ ?side1 ?side2 A51.out).mono ?_); (case side1 => repeat (first | exact (Kd.C_below HR0_9.out HB.out) | (with_reducible refine Kd.C_alloc ?_ _) | (with_reducible refine Kd.C_drewN ?_ _) | (with_reducible refine Kd.C_drew ?_))); (case side2 => exact HC0_9.out); rintro e w' ⟨rfl, ⟨nd, rfl⟩⟩))
                    go_ret
                    exact ⟨by first | rfl | (simp [iM, iO] <;> rfl) | (simp [*, iM, iO] <;> rfl), by repeat (first | (with_reducible first | exact HB.out | apply iF | apply iG | apply iH | refine iJ ?_ GE135.out) | exact HB.out)⟩
                · replace c50 := Bool.eq_false_iff.mpr c50
                  subst c50
                  have H1 : (some false) = some r := by rw [if_neg (show ¬ (false = true) by decide)] at H; exact H
                  clear H
                  have H := H1
                  clear H1
                  obtain rfl := Option.some.inj H
                  have hcz71_0 : wc.cell? ⟨gb135, 0, none⟩ = some (.int .u8 a0_0) := (iE BK135.out 0).trans rfl
                  have hcz71_1 : wc.cell? ⟨gb135, 1, none⟩ = some (.int .u32 a0_1) := (iE BK135.out 1).trans rfl
                  have hcz71_2 : wc.cell? ⟨gb135, 2, none⟩ = some (.int .u32 a0_2) := (iE BK135.out 2).trans rfl
                  have hcz71_3 : wc.cell? ⟨gb135, 3, none⟩ = some (.slice A0_3 l0_3.length c0_3) := (iE BK135.out 3).trans rfl
                  have hcz71_4 : wc.cell? ⟨gb135, 4, none⟩ = some (.slice A0_4 l0_4.length c0_4) := (iE BK135.out 4).trans rfl
                  have hcz71_5 : wc.cell? ⟨gb135, 5, none⟩ = some (.int .u32 a0_5) := (iE BK135.out 5).trans rfl
                  have hcz71_6 : wc.cell? ⟨gb135, 6, none⟩ = some (.slice A0_6 l0_6.length c0_6) := (iE BK135.out 6).trans rfl
                  have hcz71_7 : wc.cell? ⟨gb135, 7, none⟩ = some (.int .i64 a0_7) := (iE BK135.out 7).trans rfl
                  have hcz71_8 : wc.cell? ⟨gb135, 8, none⟩ = some (.int .i64 a0_8) := (iE BK135.out 8).trans rfl
                  have hcz71_9 : wc.cell? ⟨gb135, 9, none⟩ = some (.slice A0_9 l0_9.length c0_9) := (iE BK135.out 9).trans rfl
                  have hfz71_0 := iD BK135.out 0
                  have hfz71_1 := iD BK135.out 1
                  have hfz71_2 := iD BK135.out 2
                  have hfz71_3 := iD BK135.out 3
                  have hfz71_4 := iD BK135.out 4
                  have hfz71_5 := iD BK135.out 5
                  have hfz71_6 := iD BK135.out 6
                  have hfz71_7 := iD BK135.out 7
                  have hfz71_8 := iD BK135.out 8
                  have hfz71_9 := iD BK135.out 9
                  go_wp2_with (first | ((with_reducible refine jK (f := 68) rfl ?_); refine lV (some 47) rfl rfl Tryd.func68 (by kernel_rfl) rfl #[.agg #[.int .u8 a0_0, .int .u32 a0_1, .int .u32 a0_2, .slice A0_3 l0_3.length c0_3, .slice A0_4 l0_4.length c0_4, .int .u32 a0_5, .slice A0_6 l0_6.length c0_6, .int .i64 a0_7, .int .i64 a0_8, .slice A0_9 l0_9.length c0_9], .string (⟨#[73, 82]⟩ : ByteArray)] rfl (by (try simp only [List.map_toArray, List.map_cons, List.map_nil]); first | done | rfl | (simp only [List.length_drop, List.length_take]; rfl)) ?_; (with_reducible refine (stratumref07_bare.calls a0_0 a0_1 a0_2 _ _ l0_3 _ _ l0_4 a0_5 _ _ l0_6 a0_7 a0_8 _ _ l0_9 (⟨#[73, 82]⟩ : ByteArray) false _ ?side1 ?side2 ?side3 ?side4 ?side5 ?side6 ?side7 ?side8 A49.out).mono ?_); (case side1 => repeat (first | exact (Kd.C_below HR0_3.out HB.out) | (with_reducible refine Kd.C_alloc ?_ _) | (with_reducible refine Kd.C_drewN ?_ _) | (with_reducible refine Kd.C_drew ?_))); (case side2 => exact HC0_3.out); (case side3 => repeat (first | exact (Kd.C_below HR0_4.out HB.out) | (with_reducible refine Kd.C_alloc ?_ _) | (with_reducible refine Kd.C_drewN ?_ _) | (with_reducible refine Kd.C_drew ?_))); (case side4 => exact HC0_4.out); (case side5 => repeat (first | exact (Kd.C_below HR0_6.out HB.out) | (with_reducible refine Kd.C_alloc ?_ _) | (with_reducible refine Kd.C_drewN ?_ _) | (with_reducible refine Kd.C_drew ?_))); (case side6 => exact HC0_6.out); (case side7 => repeat (first | exact (Kd.C_below HR0_9.out HB.out) | (with_reducible refine Kd.C_alloc ?_ _) | (with_reducible refine Kd.C_drewN ?_ _) | (with_reducible refine Kd.C_drew ?_))); (case side8 => exact HC0_9.out); rintro e w72 ⟨rfl, hb⟩; refine ⟨_, rfl, ?_⟩; have n0_ := iC.mk (jF (g := gb135) (o := .cells #[.int .u8 a0_0, .int .u32 a0_1, .int .u32 a0_2, .slice A0_3 l0_3.length c0_3, .slice A0_4 l0_4.length c0_4, .int .u32 a0_5, .slice A0_6 l0_6.length c0_6, .int .i64 a0_7, .int .i64 a0_8, .slice A0_9 l0_9.length c0_9] 30 (0, 0)) (bk_ BK135.out) hb); have n1_ := iC.mk (iI (by repeat (first | (with_reducible first | exact HB.out | apply iF | apply iG | apply iH | refine iJ ?_ GE135.out) | exact HB.out)) hb); clear BK135; clear HB; have BK135 := n0_; have HB := n1_; clear n0_ n1_; (try clear hb); (try clear hb2); (try clear hk); (try clear hi)))
                  go_ret
                  exact ⟨by first | rfl | (simp [iM, iO] <;> rfl) | (simp [*, iM, iO] <;> rfl), by repeat (first | (with_reducible first | exact HB.out | apply iF | apply iG | apply iH | refine iJ ?_ GE135.out) | exact HB.out)⟩
              · rw [if_neg c48] at H
                have c48b0 : (a0_0 == 7) = false := beq_eq_false_iff_ne.mpr c48
                have c48b1 : (a0_0 != 7) = true := bne_iff_ne.mpr c48
                obtain rfl := Option.some.inj H
                go_wp2
                go_ret
                exact ⟨by first | rfl | (simp [iM, iO] <;> rfl) | (simp [*, iM, iO] <;> rfl), by repeat (first | (with_reducible first | exact HB.out | apply iF | apply iG | apply iH | refine iJ ?_ GE135.out) | exact HB.out)⟩
end Go.Proofs.YtgfkgppomaapiaaDoor.K
end
