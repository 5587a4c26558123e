/- Parts of the proof, one behind the other: K37, RefB, K38, RefS, K39, K40, K41. -/
import Derived.Test.YtgfkgppomaapiaaDoorQMsgEncodes4
set_option linter.unusedVariables false
set_option linter.unusedSimpArgs false
section
namespace Go.Proofs.YtgfkgppomaapiaaDoor.K
open Go.RowKit Go.Proofs.YtgfkgppomaapiaaDoorW.PrintWords Go.Proofs.YtgfkgppomaapiaaDoorW.PrintLast Go.Proofs.YtgfkgppomaapiaaDoorW.PrintMore
attribute [local go_sem] kH kS
def stratumref07_SoundEntries.l0 : Nat → List (S86) → Int → Option (Bool)
  | 0, _, _ => none
  | k + 1, x0, x3 => if x3 < (x0.length : Int) then (if 0 ≤ x3 then ((stratumref07_SoundFacts.f k ((iR x0 x3).f1)).bind fun t132 => (if t132 = true then (if x3 > 0 then (if 0 ≤ (wrap64 (x3 - 1)) then (if (wrap64 (x3 - 1)) < (x0.length : Int) then (if ((iR x0 x3).f0) ≤ ((iR x0 (wrap64 (x3 - 1))).f0) then (some false) else (stratumref07_SoundEntries.l0 k x0 (wrap64 (x3 + 1)))) else (none)) else (none)) else (stratumref07_SoundEntries.l0 k x0 (wrap64 (x3 + 1)))) else (some false))) else (none)) else (some (decide ((x0.length : Int) ≤ 5000)))
def stratumref07_SoundEntries.f (k : Nat) (l0 : List (S86)) : Option (Bool) := stratumref07_SoundEntries.l0 k l0 0
set_option maxHeartbeats 8000000 in
set_option maxRecDepth 100000 in
theorem stratumref07_SoundEntries.calls (k : Nat) (A0 : Option Addr) (c0 : Nat) (l0 : List (S86)) (r : Bool) (w : World) (hr0 : Kd.C k86 w A0 l0.length l0) (hc0 : l0.length ≤ c0) (h : stratumref07_SoundEntries.f k l0 = some r) :
    Calls Tryd.prog 72 #[.slice A0 l0.length c0] w fun e w' => e = .returned (.bool r) ∧ jG w w' := by
  have HR0 := iC.mk hr0
  have HC0 := iC.mk hc0
  clear hr0 hc0
  have H : (stratumref07_SoundEntries.l0 k l0 0) = some r := h
  clear h
  have H' := iC.mk H
  clear H
  go_enter Tryd.func72, Tryd.ntmps72
  go_wp2
  repeat (go_quiet (fail); try go_wp2)
  go_loopg [3] k (fun kq v3 w' => ∃ (x3_1 : Int), v3 = .int .i64 x3_1 ∧ iC (stratumref07_SoundEntries.l0 kq l0 x3_1 = some r) ∧ iC (kq ≤ k) ∧ jG w w')
  case atStart => exact ⟨(0), (by first | rfl | (simp; done) | (simp [*]; done)), H', ⟨Nat.le_refl _⟩, by repeat (first | exact jG.refl _ | apply jG.step)⟩
  case round =>
    clear H'
    obtain ⟨x3_1, rfl, HA, HK1, ⟨m1, rfl⟩⟩ := hrel
    cases gk with
    | zero => exact absurd HA.out (by simp [stratumref07_SoundEntries.l0])
    | succ k1 =>
      have H := HA.out
      clear HA
      simp only [stratumref07_SoundEntries.l0] at H
      by_cases c2 : x3_1 < (l0.length : Int)
      · rw [if_pos c2] at H
        have c2b0 : decide (x3_1 < (l0.length : Int)) = true := decide_eq_true c2
        clear c2
        by_cases c3 : 0 ≤ x3_1
        · rw [if_pos c3] at H
          have c3b0 : decide (0 ≤ x3_1) = true := decide_eq_true c3
          clear c3
          replace H := Option.bind_eq_some_iff.mp H
          obtain ⟨t132, A40, H⟩ := H
          replace H : (if t132 = true then (if x3_1 > 0 then (if 0 ≤ (wrap64 (x3_1 - 1)) then (if (wrap64 (x3_1 - 1)) < (l0.length : Int) then (if ((iR l0 x3_1).f0) ≤ ((iR l0 (wrap64 (x3_1 - 1))).f0) then (some false) else (stratumref07_SoundEntries.l0 k1 l0 (wrap64 (x3_1 + 1)))) else (none)) else (none)) else (stratumref07_SoundEntries.l0 k1 l0 (wrap64 (x3_1 + 1)))) else (some false)) = some r := H
          have A4 := iC.mk A40
          clear A40
          by_cases c5 : t132 = true
          · subst c5
            have H1 : (if x3_1 > 0 then (if 0 ≤ (wrap64 (x3_1 - 1)) then (if (wrap64 (x3_1 - 1)) < (l0.length : Int) then (if ((iR l0 x3_1).f0) ≤ ((iR l0 (wrap64 (x3_1 - 1))).f0) then (some false) else (stratumref07_SoundEntries.l0 k1 l0 (wrap64 (x3_1 + 1)))) else (none)) else (none)) else (stratumref07_SoundEntries.l0 k1 l0 (wrap64 (x3_1 + 1)))) = some r := by rw [if_pos rfl] at H; exact H
            clear H
            have H := H1
            clear H1
            by_cases c6 : x3_1 > 0
            · rw [if_pos c6] at H
              have c6b0 : decide (0 < x3_1) = true := decide_eq_true c6
              clear c6
              obtain ⟨ji7, hji7⟩ : ∃ j_ : Int, (wrap64 (x3_1 - 1)) = j_ := ⟨_, rfl⟩
              replace H : (if 0 ≤ (ji7) then (if (ji7) < (l0.length : Int) then (if ((iR l0 x3_1).f0) ≤ ((iR l0 (ji7)).f0) then (some false) else (stratumref07_SoundEntries.l0 k1 l0 (wrap64 (x3_1 + 1)))) else (none)) else (none)) = some r := by first | (rw [hji7] at H; exact H) | (simp only [hji7] at H ⊢; exact H)
              (try rw [hji7] at A4)
              have hji7w : (IntKind.i64.wrap (x3_1 - 1)) = ji7 := (iY _).trans hji7
              by_cases c8 : 0 ≤ (ji7)
              · rw [if_pos c8] at H
                have c8b0 : decide (0 ≤ (ji7)) = true := decide_eq_true c8
                clear c8
                by_cases c9 : (ji7) < (l0.length : Int)
                · rw [if_pos c9] at H
                  have c9b0 : decide ((ji7) < (l0.length : Int)) = true := decide_eq_true c9
                  clear c9
                  by_cases c10 : ((iR l0 x3_1).f0) ≤ ((iR l0 (ji7)).f0)
                  · rw [if_pos c10] at H
                    have c10b0 : decide (((iR l0 x3_1).f0) ≤ ((iR l0 (ji7)).f0)) = true := decide_eq_true c10
                    clear c10
                    obtain rfl := Option.some.inj H
                    have p131 : 0 ≤ (x3_1 : Int) := of_decide_eq_true asm_
                    have q131 : x3_1 < (l0.length : Int) := of_decide_eq_true asm_
                    obtain ⟨ad131, A131_1, c131_1, e131, hx131_0, hx131_1, hl131_1, hi131_1⟩ := kT HR0.out x3_1 p131 q131
                    cases e131
                    have HR131_1 := iC.mk hi131_1
                    have HC131_1 := iC.mk hl131_1
                    clear hi131_1 hl131_1
                    replace p131 := eq_true p131
                    replace q131 := eq_true q131
                    go_wp2_with (first | (go_at_call 70; (with_reducible refine (stratumref07_SoundFacts.calls k1 _ _ ((iR l0 x3_1).f1) true _ ?side1 ?side2 A4.out).mono ?_); (case side1 => repeat (first | exact HR131_1.out | (with_reducible refine Kd.C_alloc ?_ _) | (with_reducible refine Kd.C_drewN ?_ _) | (with_reducible refine Kd.C_drew ?_))); (case side2 => exact HC131_1.out); rintro e w' ⟨rfl, ⟨nd, rfl⟩⟩; (try first | exact ⟨rfl, _, World.drewN_drewN _ _ _⟩ | exact ⟨rfl, _, Eq.trans (World.drewN_drewN _ _ _) (congrArg (World.drewN _) (Nat.add_assoc _ _ _))⟩); have p133 : 0 ≤ (x3_1 : Int) := of_decide_eq_true asm_; have q133 : x3_1 < (l0.length : Int) := of_decide_eq_true asm_; obtain ⟨ad133, A133_1, c133_1, e133, hx133_0, hx133_1, hl133_1, hi133_1⟩ := kT HR0.out x3_1 p133 q133; obtain rfl : ad131 = ad133 := (by injection e133); have HR133_1 := iC.mk hi133_1; have HC133_1 := iC.mk hl133_1; clear hi133_1 hl133_1; replace p133 := eq_true p133; replace q133 := eq_true q133; have ea_ := Option.some.inj (hx131_1.symm.trans hx133_1); injection ea_ with ea_ en_ ec_; subst ea_; subst ec_; clear en_; have p134 : 0 ≤ ((ji7) : Int) := of_decide_eq_true asm_; have q134 : (ji7) < (l0.length : Int) := of_decide_eq_true asm_; obtain ⟨ad134, A134_1, c134_1, e134, hx134_0, hx134_1, hl134_1, hi134_1⟩ := kT HR0.out (ji7) p134 q134; obtain rfl : ad131 = ad134 := (by injection e134); have HR134_1 := iC.mk hi134_1; have HC134_1 := iC.mk hl134_1; clear hi134_1 hl134_1; replace p134 := eq_true p134; replace q134 := eq_true q134))
                    repeat (go_quiet (first | (go_at_call 70; (with_reducible refine (stratumref07_SoundFacts.calls k1 _ _ ((iR l0 x3_1).f1) true _ ?side1 ?side2 A4.out).mono ?_); (case side1 => repeat (first | exact HR131_1.out | (with_reducible refine Kd.C_alloc ?_ _) | (with_reducible refine Kd.C_drewN ?_ _) | (with_reducible refine Kd.C_drew ?_))); (case side2 => exact HC131_1.out); rintro e w' ⟨rfl, ⟨nd, rfl⟩⟩; (try first | exact ⟨rfl, _, World.drewN_drewN _ _ _⟩ | exact ⟨rfl, _, Eq.trans (World.drewN_drewN _ _ _) (congrArg (World.drewN _) (Nat.add_assoc _ _ _))⟩); have p133 : 0 ≤ (x3_1 : Int) := of_decide_eq_true asm_; have q133 : x3_1 < (l0.length : Int) := of_decide_eq_true asm_; obtain ⟨ad133, A133_1, c133_1, e133, hx133_0, hx133_1, hl133_1, hi133_1⟩ := kT HR0.out x3_1 p133 q133; obtain rfl : ad131 = ad133 := (by injection e133); have HR133_1 := iC.mk hi133_1; have HC133_1 := iC.mk hl133_1; clear hi133_1 hl133_1; replace p133 := eq_true p133; replace q133 := eq_true q133; have ea_ := Option.some.inj (hx131_1.symm.trans hx133_1); injection ea_ with ea_ en_ ec_; subst ea_; subst ec_; clear en_; have p134 : 0 ≤ ((ji7) : Int) := of_decide_eq_true asm_; have q134 : (ji7) < (l0.length : Int) := of_decide_eq_true asm_; obtain ⟨ad134, A134_1, c134_1, e134, hx134_0, hx134_1, hl134_1, hi134_1⟩ := kT HR0.out (ji7) p134 q134; obtain rfl : ad131 = ad134 := (by injection e134); have HR134_1 := iC.mk hi134_1; have HC134_1 := iC.mk hl134_1; clear hi134_1 hl134_1; replace p134 := eq_true p134; replace q134 := eq_true q134)); try go_wp2_with (first | (go_at_call 70; (with_reducible refine (stratumref07_SoundFacts.calls k1 _ _ ((iR l0 x3_1).f1) true _ ?side1 ?side2 A4.out).mono ?_); (case side1 => repeat (first | exact HR131_1.out | (with_reducible refine Kd.C_alloc ?_ _) | (with_reducible refine Kd.C_drewN ?_ _) | (with_reducible refine Kd.C_drew ?_))); (case side2 => exact HC131_1.out); rintro e w' ⟨rfl, ⟨nd, rfl⟩⟩; (try first | exact ⟨rfl, _, World.drewN_drewN _ _ _⟩ | exact ⟨rfl, _, Eq.trans (World.drewN_drewN _ _ _) (congrArg (World.drewN _) (Nat.add_assoc _ _ _))⟩); have p133 : 0 ≤ (x3_1 : Int) := of_decide_eq_true asm_; have q133 : x3_1 < (l0.length : Int) := of_decide_eq_true asm_; obtain ⟨ad133, A133_1, c133_1, e133, hx133_0, hx133_1, hl133_1, hi133_1⟩ := kT HR0.out x3_1 p133 q133; obtain rfl : ad131 = ad133 := (by injection e133); have HR133_1 := iC.mk hi133_1; have HC133_1 := iC.mk hl133_1; clear hi133_1 hl133_1; replace p133 := eq_true p133; replace q133 := eq_true q133; have ea_ := Option.some.inj (hx131_1.symm.trans hx133_1); injection ea_ with ea_ en_ ec_; subst ea_; subst ec_; clear en_; have p134 : 0 ≤ ((ji7) : Int) := of_decide_eq_true asm_; have q134 : (ji7) < (l0.length : Int) := of_decide_eq_true asm_; obtain ⟨ad134, A134_1, c134_1, e134, hx134_0, hx134_1, hl134_1, hi134_1⟩ := kT HR0.out (ji7) p134 q134; obtain rfl : ad131 = ad134 := (by injection e134); have HR134_1 := iC.mk hi134_1; have HC134_1 := iC.mk hl134_1; clear hi134_1 hl134_1; replace p134 := eq_true p134; replace q134 := eq_true q134)))
                    go_ret
                    exact ⟨by first | rfl | (simp; done) | (simp only [← hji7] <;> (first | rfl | simp)) | (simp [*]; done), by repeat (first | exact jG.refl _ | apply jG.step)⟩
                  · rw [if_neg c10] at H
                    have c10b0 : decide (((iR l0 x3_1).f0) ≤ ((iR l0 (ji7)).f0)) = false := decide_eq_false c10
                    clear c10
                    have H' := iC.mk H
                    clear H
                    have p131 : 0 ≤ (x3_1 : Int) := of_decide_eq_true asm_
                    have q131 : x3_1 < (l0.length : Int) := of_decide_eq_true asm_
                    obtain ⟨ad131, A131_1, c131_1, e131, hx131_0, hx131_1, hl131_1, hi131_1⟩ := kT HR0.out x3_1 p131 q131
                    cases e131
                    have HR131_1 := iC.mk hi131_1
                    have HC131_1 := iC.mk hl131_1
                    clear hi131_1 hl131_1
                    replace p131 := eq_true p131
                    replace q131 := eq_true q131
                    go_wp2_with (first | (go_at_call 70; (with_reducible refine (stratumref07_SoundFacts.calls k1 _ _ ((iR l0 x3_1).f1) true _ ?side1 ?side2 A4.out).mono ?_); (case side1 => repeat (first | exact HR131_1.out | (with_reducible refine Kd.C_alloc ?_ _) | (with_reducible refine Kd.C_drewN ?_ _) | (with_reducible refine Kd.C_drew ?_))); (case side2 => exact HC131_1.out); rintro e w' ⟨rfl, ⟨nd, rfl⟩⟩; (try first | exact ⟨rfl, _, World.drewN_drewN _ _ _⟩ | exact ⟨rfl, _, Eq.trans (World.drewN_drewN _ _ _) (congrArg (World.drewN _) (Nat.add_assoc _ _ _))⟩); have p133 : 0 ≤ (x3_1 : Int) := of_decide_eq_true asm_; have q133 : x3_1 < (l0.length : Int) := of_decide_eq_true asm_; obtain ⟨ad133, A133_1, c133_1, e133, hx133_0, hx133_1, hl133_1, hi133_1⟩ := kT HR0.out x3_1 p133 q133; obtain rfl : ad131 = ad133 := (by injection e133); have HR133_1 := iC.mk hi133_1; have HC133_1 := iC.mk hl133_1; clear hi133_1 hl133_1; replace p133 := eq_true p133; replace q133 := eq_true q133; have ea_ := Option.some.inj (hx131_1.symm.trans hx133_1); injection ea_ with ea_ en_ ec_; subst ea_; subst ec_; clear en_; have p134 : 0 ≤ ((ji7) : Int) := of_decide_eq_true asm_; have q134 : (ji7) < (l0.length : Int) := of_decide_eq_true asm_; obtain ⟨ad134, A134_1, c134_1, e134, hx134_0, hx134_1, hl134_1, hi134_1⟩ := kT HR0.out (ji7) p134 q134; obtain rfl : ad131 = ad134 := (by injection e134); have HR134_1 := iC.mk hi134_1; have HC134_1 := iC.mk hl134_1; clear hi134_1 hl134_1; replace p134 := eq_true p134; replace q134 := eq_true q134))
                    repeat (go_quiet (first | (go_at_call 70; (with_reducible refine (stratumref07_SoundFacts.calls k1 _ _ ((iR l0 x3_1).f1) true _ ?side1 ?side2 A4.out).mono ?_); (case side1 => repeat (first | exact HR131_1.out | (with_reducible refine Kd.C_alloc ?_ _) | (with_reducible refine Kd.C_drewN ?_ _) | (with_reducible refine Kd.C_drew ?_))); (case side2 => exact HC131_1.out); rintro e w' ⟨rfl, ⟨nd, rfl⟩⟩; (try first | exact ⟨rfl, _, World.drewN_drewN _ _ _⟩ | exact ⟨rfl, _, Eq.trans (World.drewN_drewN _ _ _) (congrArg (World.drewN _) (Nat.add_assoc _ _ _))⟩); have p133 : 0 ≤ (x3_1 : Int) := of_decide_eq_true asm_; have q133 : x3_1 < (l0.length : Int) := of_decide_eq_true asm_; obtain ⟨ad133, A133_1, c133_1, e133, hx133_0, hx133_1, hl133_1, hi133_1⟩ := kT HR0.out x3_1 p133 q133; obtain rfl : ad131 = ad133 := (by injection e133); have HR133_1 := iC.mk hi133_1; have HC133_1 := iC.mk hl133_1; clear hi133_1 hl133_1; replace p133 := eq_true p133; replace q133 := eq_true q133; have ea_ := Option.some.inj (hx131_1.symm.trans hx133_1); injection ea_ with ea_ en_ ec_; subst ea_; subst ec_; clear en_; have p134 : 0 ≤ ((ji7) : Int) := of_decide_eq_true asm_; have q134 : (ji7) < (l0.length : Int) := of_decide_eq_true asm_; obtain ⟨ad134, A134_1, c134_1, e134, hx134_0, hx134_1, hl134_1, hi134_1⟩ := kT HR0.out (ji7) p134 q134; obtain rfl : ad131 = ad134 := (by injection e134); have HR134_1 := iC.mk hi134_1; have HC134_1 := iC.mk hl134_1; clear hi134_1 hl134_1; replace p134 := eq_true p134; replace q134 := eq_true q134)); try go_wp2_with (first | (go_at_call 70; (with_reducible refine (stratumref07_SoundFacts.calls k1 _ _ ((iR l0 x3_1).f1) true _ ?side1 ?side2 A4.out).mono ?_); (case side1 => repeat (first | exact HR131_1.out | (with_reducible refine Kd.C_alloc ?_ _) | (with_reducible refine Kd.C_drewN ?_ _) | (with_reducible refine Kd.C_drew ?_))); (case side2 => exact HC131_1.out); rintro e w' ⟨rfl, ⟨nd, rfl⟩⟩; (try first | exact ⟨rfl, _, World.drewN_drewN _ _ _⟩ | exact ⟨rfl, _, Eq.trans (World.drewN_drewN _ _ _) (congrArg (World.drewN _) (Nat.add_assoc _ _ _))⟩); have p133 : 0 ≤ (x3_1 : Int) := of_decide_eq_true asm_; have q133 : x3_1 < (l0.length : Int) := of_decide_eq_true asm_; obtain ⟨ad133, A133_1, c133_1, e133, hx133_0, hx133_1, hl133_1, hi133_1⟩ := kT HR0.out x3_1 p133 q133; obtain rfl : ad131 = ad133 := (by injection e133); have HR133_1 := iC.mk hi133_1; have HC133_1 := iC.mk hl133_1; clear hi133_1 hl133_1; replace p133 := eq_true p133; replace q133 := eq_true q133; have ea_ := Option.some.inj (hx131_1.symm.trans hx133_1); injection ea_ with ea_ en_ ec_; subst ea_; subst ec_; clear en_; have p134 : 0 ≤ ((ji7) : Int) := of_decide_eq_true asm_; have q134 : (ji7) < (l0.length : Int) := of_decide_eq_true asm_; obtain ⟨ad134, A134_1, c134_1, e134, hx134_0, hx134_1, hl134_1, hi134_1⟩ := kT HR0.out (ji7) p134 q134; obtain rfl : ad131 = ad134 := (by injection e134); have HR134_1 := iC.mk hi134_1; have HC134_1 := iC.mk hl134_1; clear hi134_1 hl134_1; replace p134 := eq_true p134; replace q134 := eq_true q134)))
                    go_roundg k1
                    case measure => have := HK1.out; omega
                    case rel => exact ⟨(wrap64 (x3_1 + 1)), (by first | rfl | (simp; done) | (simp [*]; done)), H', ⟨by have := HK1.out; omega⟩, by repeat (first | exact jG.refl _ | apply jG.step)⟩
                · rw [if_neg c9] at H
                  exact absurd H (by simp)
              · rw [if_neg c8] at H
                exact absurd H (by simp)
            · rw [if_neg c6] at H
              have c6b0 : decide (0 < x3_1) = false := decide_eq_false c6
              clear c6
              have H' := iC.mk H
              clear H
              have p131 : 0 ≤ (x3_1 : Int) := of_decide_eq_true asm_
              have q131 : x3_1 < (l0.length : Int) := of_decide_eq_true asm_
              obtain ⟨ad131, A131_1, c131_1, e131, hx131_0, hx131_1, hl131_1, hi131_1⟩ := kT HR0.out x3_1 p131 q131
              cases e131
              have HR131_1 := iC.mk hi131_1
              have HC131_1 := iC.mk hl131_1
              clear hi131_1 hl131_1
              replace p131 := eq_true p131
              replace q131 := eq_true q131
              go_wp2_with (first | (go_at_call 70; (with_reducible refine (stratumref07_SoundFacts.calls k1 _ _ ((iR l0 x3_1).f1) true _ ?side1 ?side2 A4.out).mono ?_); (case side1 => repeat (first | exact HR131_1.out | (with_reducible refine Kd.C_alloc ?_ _) | (with_reducible refine Kd.C_drewN ?_ _) | (with_reducible refine Kd.C_drew ?_))); (case side2 => exact HC131_1.out); rintro e w' ⟨rfl, ⟨nd, rfl⟩⟩; (try first | exact ⟨rfl, _, World.drewN_drewN _ _ _⟩ | exact ⟨rfl, _, Eq.trans (World.drewN_drewN _ _ _) (congrArg (World.drewN _) (Nat.add_assoc _ _ _))⟩)))
              repeat (go_quiet (first | (go_at_call 70; (with_reducible refine (stratumref07_SoundFacts.calls k1 _ _ ((iR l0 x3_1).f1) true _ ?side1 ?side2 A4.out).mono ?_); (case side1 => repeat (first | exact HR131_1.out | (with_reducible refine Kd.C_alloc ?_ _) | (with_reducible refine Kd.C_drewN ?_ _) | (with_reducible refine Kd.C_drew ?_))); (case side2 => exact HC131_1.out); rintro e w' ⟨rfl, ⟨nd, rfl⟩⟩; (try first | exact ⟨rfl, _, World.drewN_drewN _ _ _⟩ | exact ⟨rfl, _, Eq.trans (World.drewN_drewN _ _ _) (congrArg (World.drewN _) (Nat.add_assoc _ _ _))⟩))); try go_wp2_with (first | (go_at_call 70; (with_reducible refine (stratumref07_SoundFacts.calls k1 _ _ ((iR l0 x3_1).f1) true _ ?side1 ?side2 A4.out).mono ?_); (case side1 => repeat (first | exact HR131_1.out | (with_reducible refine Kd.C_alloc ?_ _) | (with_reducible refine Kd.C_drewN ?_ _) | (with_reducible refine Kd.C_drew ?_))); (case side2 => exact HC131_1.out); rintro e w' ⟨rfl, ⟨nd, rfl⟩⟩; (try first | exact ⟨rfl, _, World.drewN_drewN _ _ _⟩ | exact ⟨rfl, _, Eq.trans (World.drewN_drewN _ _ _) (congrArg (World.drewN _) (Nat.add_assoc _ _ _))⟩))))
              go_roundg k1
              case measure => have := HK1.out; omega
              case rel => exact ⟨(wrap64 (x3_1 + 1)), (by first | rfl | (simp; done) | (simp [*]; done)), H', ⟨by have := HK1.out; omega⟩, by repeat (first | exact jG.refl _ | apply jG.step)⟩
          · replace c5 := Bool.eq_false_iff.mpr c5
            subst c5
            have H1 : (some false) = some r := by rw [if_neg (show ¬ (false = true) by decide)] at H; exact H
            clear H
            have H := H1
            clear H1
            obtain rfl := Option.some.inj H
            have p131 : 0 ≤ (x3_1 : Int) := of_decide_eq_true asm_
            have q131 : x3_1 < (l0.length : Int) := of_decide_eq_true asm_
            obtain ⟨ad131, A131_1, c131_1, e131, hx131_0, hx131_1, hl131_1, hi131_1⟩ := kT HR0.out x3_1 p131 q131
            cases e131
            have HR131_1 := iC.mk hi131_1
            have HC131_1 := iC.mk hl131_1
            clear hi131_1 hl131_1
            replace p131 := eq_true p131
            replace q131 := eq_true q131
            go_wp2_with (first | (go_at_call 70; (with_reducible refine (stratumref07_SoundFacts.calls k1 _ _ ((iR l0 x3_1).f1) false _ ?side1 ?side2 A4.out).mono ?_); (case side1 => repeat (first | exact HR131_1.out | (with_reducible refine Kd.C_alloc ?_ _) | (with_reducible refine Kd.C_drewN ?_ _) | (with_reducible refine Kd.C_drew ?_))); (case side2 => exact HC131_1.out); rintro e w' ⟨rfl, ⟨nd, rfl⟩⟩; (try first | exact ⟨rfl, _, World.drewN_drewN _ _ _⟩ | exact ⟨rfl, _, Eq.trans (World.drewN_drewN _ _ _) (congrArg (World.drewN _) (Nat.add_assoc _ _ _))⟩)))
            repeat (go_quiet (first | (go_at_call 70; (with_reducible refine (stratumref07_SoundFacts.calls k1 _ _ ((iR l0 x3_1).f1) false _ ?side1 ?side2 A4.out).mono ?_); (case side1 => repeat (first | exact HR131_1.out | (with_reducible refine Kd.C_alloc ?_ _) | (with_reducible refine Kd.C_drewN ?_ _) | (with_reducible refine Kd.C_drew ?_))); (case side2 => exact HC131_1.out); rintro e w' ⟨rfl, ⟨nd, rfl⟩⟩; (try first | exact ⟨rfl, _, World.drewN_drewN _ _ _⟩ | exact ⟨rfl, _, Eq.trans (World.drewN_drewN _ _ _) (congrArg (World.drewN _) (Nat.add_assoc _ _ _))⟩))); try go_wp2_with (first | (go_at_call 70; (with_reducible refine (stratumref07_SoundFacts.calls k1 _ _ ((iR l0 x3_1).f1) false _ ?side1 ?side2 A4.out).mono ?_); (case side1 => repeat (first | exact HR131_1.out | (with_reducible refine Kd.C_alloc ?_ _) | (with_reducible refine Kd.C_drewN ?_ _) | (with_reducible refine Kd.C_drew ?_))); (case side2 => exact HC131_1.out); rintro e w' ⟨rfl, ⟨nd, rfl⟩⟩; (try first | exact ⟨rfl, _, World.drewN_drewN _ _ _⟩ | exact ⟨rfl, _, Eq.trans (World.drewN_drewN _ _ _) (congrArg (World.drewN _) (Nat.add_assoc _ _ _))⟩))))
            go_ret
            exact ⟨by first | rfl | (simp; done) | (simp [*]; done), by repeat (first | exact jG.refl _ | apply jG.step)⟩
        · rw [if_neg c3] at H
          exact absurd H (by simp)
      · rw [if_neg c2] at H
        have c2b0 : decide (x3_1 < (l0.length : Int)) = false := decide_eq_false c2
        clear c2
        obtain rfl := Option.some.inj H
        go_wp2
        repeat (go_quiet (fail); try go_wp2)
        go_ret
        exact ⟨by first | rfl | (simp; done) | (simp [*]; done), by repeat (first | exact jG.refl _ | apply jG.step)⟩
end Go.Proofs.YtgfkgppomaapiaaDoor.K
end

section
namespace Go.Proofs.YtgfkgppomaapiaaDoor.K
open RowKit YtgfkgppomaapiaaDoorW.PrintWords YtgfkgppomaapiaaDoorW.PrintLast YtgfkgppomaapiaaDoorW.PrintMore My
def flag (b : Bool) (c : Nat) (s : List UInt8) : Bool := b || s.any fun x => x.toNat == c
theorem oQ (b : Bool) (c : Nat) (s : List UInt8) : flag b c (s.take 0) = b := by simp [flag]
theorem oO (b : Bool) (c : Nat) (s : ByteArray) (k : Nat) (h : k < s.size) : flag b c (s.data.toList.take (k + 1)) = (flag b c (s.data.toList.take k) || (((s[k]'h).toNat : Int) == (c : Int))) := by
  have e : s.data.toList.take (k + 1) = s.data.toList.take k ++ [s[k]'h] := by
    rw [List.take_succ_eq_append_getElem (by simpa using h)]; rfl
  rw [e]
  unfold flag
  rw [List.any_append, ← Bool.or_assoc]
  congr 1
  simp only [List.any_cons, List.any_nil, Bool.or_false]
  rw [Bool.eq_iff_iff]
  simp only [beq_iff_eq]
  omega
set_option maxRecDepth 20000 in
set_option maxHeartbeats 4000000 in
theorem UQ (a0 a1 a2 : Int) (A3 : Option Addr) (c3 n3 : Nat) (A4 : Option Addr) (c4 n4 : Nat) (a5 : Int) (A6 : Option Addr) (c6 n6 : Nat) (a7 a8 : Int) (A9 : Option Addr) (c9 n9 : Nat) (s : ByteArray) (w : World) (r : Bool) (hs : (s.size : Int) ≤ 9223372036854775807)
    (HR : iC (r = (flag (a1 == 0) 73 s.data.toList && flag (a2 == 0) 65 s.data.toList && flag ((n3 : Int) == 0) 78 s.data.toList && flag ((n4 : Int) == 0) 70 s.data.toList && flag ((a5 == 0) && ((n6 : Int) == 0)) 77 s.data.toList && flag ((a7 == 0) && (a8 == 0) && ((n9 : Int) == 0)) 82 s.data.toList))) :
    Calls Tryd.prog 68 #[.agg #[.int .u8 a0, .int .u32 a1, .int .u32 a2, .slice A3 n3 c3, .slice A4 n4 c4, .int .u32 a5, .slice A6 n6 c6, .int .i64 a7, .int .i64 a8, .slice A9 n9 c9], .string s] w fun e w' => e = .returned (.bool r) ∧ Below w.heap.size w w' := by
  go_enter Tryd.func68, Tryd.ntmps68
  go_upto_region 5 with fail
  go_cut [9] (fun s9 wx => s9 = .bool ((a5 == 0) && ((n6 : Int) == 0)) ∧ wx = w.alloc (.cells #[.int .u8 a0, .int .u32 a1, .int .u32 a2, .slice A3 n3 c3, .slice A4 n4 c4, .int .u32 a5, .slice A6 n6 c6, .int .i64 a7, .int .i64 a8, .slice A9 n9 c9] 30))
  case first =>
    by_cases h5 : a5 = 0
    · subst h5
      go_wp2_with fail
      go_meet
      exact ⟨by simp, rfl⟩
    · have h5' : (a5 == 0) = false := by simpa using h5
      go_wp2_with fail
      go_meet
      exact ⟨by simp [h5'], rfl⟩
  case rest =>
    obtain ⟨rfl, rfl⟩ := hcut
    go_upto_region 6 with fail
    go_cut [10] (fun s10 wx => s10 = .bool ((a7 == 0) && (a8 == 0) && ((n9 : Int) == 0)) ∧ wx = w.alloc (.cells #[.int .u8 a0, .int .u32 a1, .int .u32 a2, .slice A3 n3 c3, .slice A4 n4 c4, .int .u32 a5, .slice A6 n6 c6, .int .i64 a7, .int .i64 a8, .slice A9 n9 c9] 30))
    case first =>
      by_cases h7 : a7 = 0
      · subst h7
        by_cases h8 : a8 = 0
        · subst h8
          go_wp2_with fail
          go_meet
          exact ⟨by simp, rfl⟩
        · have h8' : (a8 == 0) = false := by simpa using h8
          go_wp2_with fail
          go_meet
          exact ⟨by simp [h8'], rfl⟩
      · have h7' : (a7 == 0) = false := by simpa using h7
        go_wp2_with fail
        go_meet
        exact ⟨by simp [h7'], rfl⟩
    case rest =>
      obtain ⟨rfl, rfl⟩ := hcut
      generalize ((a5 == 0) && ((n6 : Int) == 0)) = i9 at HR ⊢
      generalize ((a7 == 0) && (a8 == 0) && ((n9 : Int) == 0)) = i10 at HR ⊢
      generalize (a1 == 0) = i5 at HR ⊢
      generalize (a2 == 0) = i6 at HR ⊢
      generalize ((n3 : Int) == 0) = i7 at HR ⊢
      generalize ((n4 : Int) == 0) = i8 at HR ⊢
      have HW := iC.mk (show Below w.heap.size w (w.alloc (.cells #[.int .u8 a0, .int .u32 a1, .int .u32 a2, .slice A3 n3 c3, .slice A4 n4 c4, .int .u32 a5, .slice A6 n6 c6, .int .i64 a7, .int .i64 a8, .slice A9 n9 c9] 30)) from iF (Below.refl _ _) _)
      generalize w.alloc (.cells #[.int .u8 a0, .int .u32 a1, .int .u32 a2, .slice A3 n3 c3, .slice A4 n4 c4, .int .u32 a5, .slice A6 n6 c6, .int .i64 a7, .int .i64 a8, .slice A9 n9 c9] 30) = wb at HW ⊢
      go_wp2_with fail
      go_loopg [5, 6, 7, 8, 9, 10, 11] s.size (fun gg s5 s6 s7 s8 s9 s10 s11 wr => ∃ k : Nat, k ≤ s.size ∧ s.size - k ≤ gg ∧ s5 = .bool (flag i5 73 (s.data.toList.take k)) ∧ s6 = .bool (flag i6 65 (s.data.toList.take k)) ∧ s7 = .bool (flag i7 78 (s.data.toList.take k)) ∧ s8 = .bool (flag i8 70 (s.data.toList.take k)) ∧ s9 = .bool (flag i9 77 (s.data.toList.take k)) ∧ s10 = .bool (flag i10 82 (s.data.toList.take k)) ∧ s11 = .int .i64 k ∧ wb = wr)
      case atStart => exact ⟨0, Nat.zero_le _, by omega, by rw [oQ], by rw [oQ], by rw [oQ], by rw [oQ], by rw [oQ], by rw [oQ], rfl, rfl⟩
      case round =>
        obtain ⟨k, hk, hg, rfl, rfl, rfl, rfl, rfl, rfl, rfl, rfl⟩ := hrel
        by_cases hks : k < s.size
        · have HS := iC.mk (And.intro (oO i5 73 s k hks) (And.intro (oO i6 65 s k hks) (And.intro (oO i7 78 s k hks) (And.intro (oO i8 70 s k hks) (And.intro (oO i9 77 s k hks) (oO i10 82 s k hks))))))
          clear HR
          have hsu : wrap64 ((k : Int) + 1) = k + 1 := by unfold wrap64; omega
          generalize flag i5 73 (s.data.toList.take k) = f5 at HS ⊢
          generalize flag i6 65 (s.data.toList.take k) = f6 at HS ⊢
          generalize flag i7 78 (s.data.toList.take k) = f7 at HS ⊢
          generalize flag i8 70 (s.data.toList.take k) = f8 at HS ⊢
          generalize flag i9 77 (s.data.toList.take k) = f9 at HS ⊢
          generalize flag i10 82 (s.data.toList.take k) = f10 at HS ⊢
          go_upto_region 10 with fail
          go_cut [5] (fun x wx => x = .bool (f5 || (((s[k]'hks).toNat : Int) == 73)) ∧ wb = wx)
          case first =>
            clear HS
            cases f5
            all_goals (go_wp2_with fail; go_meet; exact ⟨by simp, rfl⟩)
          case rest =>
          obtain ⟨rfl, rfl⟩ := hcut
          generalize (f5 || (((s[k]'hks).toNat : Int) == 73)) = g5 at HS ⊢
          go_upto_region 11 with fail
          go_cut [6] (fun x wx => x = .bool (f6 || (((s[k]'hks).toNat : Int) == 65)) ∧ wb = wx)
          case first =>
            clear HS
            cases f6
            all_goals (go_wp2_with fail; go_meet; exact ⟨by simp, rfl⟩)
          case rest =>
          obtain ⟨rfl, rfl⟩ := hcut
          generalize (f6 || (((s[k]'hks).toNat : Int) == 65)) = g6 at HS ⊢
          go_upto_region 12 with fail
          go_cut [7] (fun x wx => x = .bool (f7 || (((s[k]'hks).toNat : Int) == 78)) ∧ wb = wx)
          case first =>
            clear HS
            cases f7
            all_goals (go_wp2_with fail; go_meet; exact ⟨by simp, rfl⟩)
          case rest =>
          obtain ⟨rfl, rfl⟩ := hcut
          generalize (f7 || (((s[k]'hks).toNat : Int) == 78)) = g7 at HS ⊢
          go_upto_region 13 with fail
          go_cut [8] (fun x wx => x = .bool (f8 || (((s[k]'hks).toNat : Int) == 70)) ∧ wb = wx)
          case first =>
            clear HS
            cases f8
            all_goals (go_wp2_with fail; go_meet; exact ⟨by simp, rfl⟩)
          case rest =>
          obtain ⟨rfl, rfl⟩ := hcut
          generalize (f8 || (((s[k]'hks).toNat : Int) == 70)) = g8 at HS ⊢
          go_upto_region 14 with fail
          go_cut [9] (fun x wx => x = .bool (f9 || (((s[k]'hks).toNat : Int) == 77)) ∧ wb = wx)
          case first =>
            clear HS
            cases f9
            all_goals (go_wp2_with fail; go_meet; exact ⟨by simp, rfl⟩)
          case rest =>
          obtain ⟨rfl, rfl⟩ := hcut
          generalize (f9 || (((s[k]'hks).toNat : Int) == 77)) = g9 at HS ⊢
          cases f10
          all_goals
            go_wp2_with fail
            go_roundg (s.size - (k + 1))
            case measure => omega
            case rel => exact ⟨k + 1, by omega, by omega, by rw [HS.out.1], by rw [HS.out.2.1], by rw [HS.out.2.2.1], by rw [HS.out.2.2.2.1], by rw [HS.out.2.2.2.2.1], by rw [HS.out.2.2.2.2.2]; simp, by go_num, rfl⟩
        · have : k = s.size := by omega
          subst this
          have ht : s.data.toList.take s.size = s.data.toList := List.take_of_length_le (Nat.le_refl _)
          rw [ht]
          clear ht
          generalize flag i5 73 s.data.toList = f5 at HR ⊢
          generalize flag i6 65 s.data.toList = f6 at HR ⊢
          generalize flag i7 78 s.data.toList = f7 at HR ⊢
          generalize flag i8 70 s.data.toList = f8 at HR ⊢
          generalize flag i9 77 s.data.toList = f9 at HR ⊢
          generalize flag i10 82 s.data.toList = f10 at HR ⊢
          go_wp2_with fail
          all_goals (go_ret; exact ⟨by rw [HR.out]; simp [*], HW.out⟩)
def vX (a1 a2 : Int) (l3 : List Int) (l4 : List jO) (a5 : Int) (l6 : List kD) (a7 a8 : Int) (l9 : List jJ) (s : List UInt8) : Bool :=
  flag (a1 == 0) 73 s && flag (a2 == 0) 65 s && flag ((l3.length : Int) == 0) 78 s && flag ((l4.length : Int) == 0) 70 s && flag ((a5 == 0) && ((l6.length : Int) == 0)) 77 s && flag ((a7 == 0) && (a8 == 0) && ((l9.length : Int) == 0)) 82 s
def stratumref07_bare.f (a0_0 : Int) (a0_1 : Int) (a0_2 : Int) (l0_3 : List Int) (l0_4 : List jO) (a0_5 : Int) (l0_6 : List kD) (a0_7 : Int) (a0_8 : Int) (l0_9 : List jJ) (a1 : ByteArray) : Option Bool :=
  if (a1.size : Int) ≤ 9223372036854775807 then some (vX a0_1 a0_2 l0_3 l0_4 a0_5 l0_6 a0_7 a0_8 l0_9 a1.data.toList) else none
theorem stratumref07_bare.calls (a0_0 : Int) (a0_1 : Int) (a0_2 : Int) (A0_3 : Option Addr) (c0_3 : Nat) (l0_3 : List Int) (A0_4 : Option Addr) (c0_4 : Nat) (l0_4 : List jO) (a0_5 : Int) (A0_6 : Option Addr) (c0_6 : Nat) (l0_6 : List kD) (a0_7 : Int) (a0_8 : Int) (A0_9 : Option Addr) (c0_9 : Nat) (l0_9 : List jJ) (a1 : ByteArray) (r : Bool) (w : World) (hr0_3 : Kd.C (Kd.int .i64) w A0_3 l0_3.length l0_3) (hc0_3 : l0_3.length ≤ c0_3) (hr0_4 : Kd.C k139 w A0_4 l0_4.length l0_4) (hc0_4 : l0_4.length ≤ c0_4) (hr0_6 : Kd.C k98 w A0_6 l0_6.length l0_6) (hc0_6 : l0_6.length ≤ c0_6) (hr0_9 : Kd.C k86 w A0_9 l0_9.length l0_9) (hc0_9 : l0_9.length ≤ c0_9) (h : stratumref07_bare.f a0_0 a0_1 a0_2 l0_3 l0_4 a0_5 l0_6 a0_7 a0_8 l0_9 a1 = some r) :
    Calls Tryd.prog 68 #[.agg #[.int .u8 a0_0, .int .u32 a0_1, .int .u32 a0_2, .slice A0_3 l0_3.length c0_3, .slice A0_4 l0_4.length c0_4, .int .u32 a0_5, .slice A0_6 l0_6.length c0_6, .int .i64 a0_7, .int .i64 a0_8, .slice A0_9 l0_9.length c0_9], .string a1] w fun e w' => e = .returned (.bool r) ∧ Below w.heap.size w w' := by
  unfold stratumref07_bare.f at h
  split at h
  case isFalse => cases h
  rename_i hs
  exact UQ _ _ _ _ _ _ _ _ _ _ _ _ _ _ _ _ _ _ _ w r hs ⟨(Option.some.inj h).symm⟩
end Go.Proofs.YtgfkgppomaapiaaDoor.K
end

section
namespace Go.Proofs.YtgfkgppomaapiaaDoor.K
open Go.RowKit Go.Proofs.YtgfkgppomaapiaaDoorW.PrintWords Go.Proofs.YtgfkgppomaapiaaDoorW.PrintLast Go.Proofs.YtgfkgppomaapiaaDoorW.PrintMore
attribute [local go_sem] kH kS
def stratumref07_Sound.j0 : Nat → Int → Bool → Int → Int → Int → List Int → List (S139) → Int → List (S98) → Int → Int → List (S86) → Option (Bool)
  | 0, _, _, _, _, _, _, _, _, _, _, _, _ => none
  | k + 1, x4, x28, x136000, x136001, x136002, x136003, x136004, x136005, x136006, x136007, x136008, x136009 => if x28 = true then ((stratumref07_bare.f x136000 x136001 x136002 x136003 x136004 x136005 x136006 x136007 x136008 x136009 (⟨#[73]⟩ : ByteArray)).bind fun t141 => (some t141)) else (if x4 = 6 then ((stratumref07_bare.f x136000 x136001 x136002 x136003 x136004 x136005 x136006 x136007 x136008 x136009 (⟨#[77]⟩ : ByteArray)).bind fun t142 => (if t142 = true then ((stratumref07_spans.f k x136006).bind fun t143 => (some t143)) else (some false))) else (if x4 = 7 then ((stratumref07_bare.f x136000 x136001 x136002 x136003 x136004 x136005 x136006 x136007 x136008 x136009 (⟨#[73, 82]⟩ : ByteArray)).bind fun t144 => (if t144 = true then ((stratumref07_SoundEntries.f k x136009).bind fun t145 => (if t145 = true then (if x136007 ≥ 0 then (if x136007 ≤ 10000 then (if x136008 ≥ 0 then (some (decide (x136008 ≤ 10000))) else (some false)) else (some false)) else (some false)) else (some false))) else (some false))) else (some false)))
def stratumref07_Sound.f (k : Nat) (a0_0 : Int) (a0_1 : Int) (a0_2 : Int) (l0_3 : List Int) (l0_4 : List (S139)) (a0_5 : Int) (l0_6 : List (S98)) (a0_7 : Int) (a0_8 : Int) (l0_9 : List (S86)) : Option (Bool) := if a0_0 = 1 then ((stratumref07_bare.f a0_0 a0_1 a0_2 l0_3 l0_4 a0_5 l0_6 a0_7 a0_8 l0_9 (⟨#[73, 78, 70]⟩ : ByteArray)).bind fun t136 => (if t136 = true then ((stratumref07_SoundNodes.f k l0_3).bind fun t137 => (if t137 = true then ((stratumref07_SoundFacts.f k l0_4).bind fun t138 => (some t138)) else (some false))) else (some false))) else (if a0_0 = 2 then ((stratumref07_bare.f a0_0 a0_1 a0_2 l0_3 l0_4 a0_5 l0_6 a0_7 a0_8 l0_9 (⟨#[73, 65, 78]⟩ : ByteArray)).bind fun t139 => (if t139 = true then ((stratumref07_SoundNodes.f k l0_3).bind fun t140 => (some t140)) else (some false))) else (if a0_0 = 3 then (stratumref07_Sound.j0 k a0_0 (a0_0 == 3) a0_0 a0_1 a0_2 l0_3 l0_4 a0_5 l0_6 a0_7 a0_8 l0_9) else (if a0_0 = 4 then (stratumref07_Sound.j0 k a0_0 (a0_0 == 4) a0_0 a0_1 a0_2 l0_3 l0_4 a0_5 l0_6 a0_7 a0_8 l0_9) else (stratumref07_Sound.j0 k a0_0 (a0_0 == 5) a0_0 a0_1 a0_2 l0_3 l0_4 a0_5 l0_6 a0_7 a0_8 l0_9))))
set_option maxHeartbeats 8000000 in
set_option maxRecDepth 100000 in
theorem stratumref07_Sound.calls (k : Nat) (a0_0 : Int) (a0_1 : Int) (a0_2 : Int) (A0_3 : Option Addr) (c0_3 : Nat) (l0_3 : List Int) (A0_4 : Option Addr) (c0_4 : Nat) (l0_4 : List (S139)) (a0_5 : Int) (A0_6 : Option Addr) (c0_6 : Nat) (l0_6 : List (S98)) (a0_7 : Int) (a0_8 : Int) (A0_9 : Option Addr) (c0_9 : Nat) (l0_9 : List (S86)) (r : Bool) (w : World) (hr0_3 : Kd.C (Kd.int .i64) w A0_3 l0_3.length l0_3) (hc0_3 : l0_3.length ≤ c0_3) (hr0_4 : Kd.C k139 w A0_4 l0_4.length l0_4) (hc0_4 : l0_4.length ≤ c0_4) (hr0_6 : Kd.C k98 w A0_6 l0_6.length l0_6) (hc0_6 : l0_6.length ≤ c0_6) (hr0_9 : Kd.C k86 w A0_9 l0_9.length l0_9) (hc0_9 : l0_9.length ≤ c0_9) (h : stratumref07_Sound.f k a0_0 a0_1 a0_2 l0_3 l0_4 a0_5 l0_6 a0_7 a0_8 l0_9 = some r) :
    Calls Tryd.prog 20 #[.agg #[.int .u8 a0_0, .int .u32 a0_1, .int .u32 a0_2, .slice A0_3 l0_3.length c0_3, .slice A0_4 l0_4.length c0_4, .int .u32 a0_5, .slice A0_6 l0_6.length c0_6, .int .i64 a0_7, .int .i64 a0_8, .slice A0_9 l0_9.length c0_9]] w fun e w' => e = .returned (.bool r) ∧ Below w.heap.size w w' := by
  have hu30 := Tryd.underlying30
  have HR0_3 := iC.mk hr0_3
  have HC0_3 := iC.mk hc0_3
  clear hr0_3 hc0_3
  have HR0_4 := iC.mk hr0_4
  have HC0_4 := iC.mk hc0_4
  clear hr0_4 hc0_4
  have HR0_6 := iC.mk hr0_6
  have HC0_6 := iC.mk hc0_6
  clear hr0_6 hc0_6
  have HR0_9 := iC.mk hr0_9
  have HC0_9 := iC.mk hc0_9
  clear hr0_9 hc0_9
  have HB := iC.mk (Below.refl w.heap.size w)
  have H : (if a0_0 = 1 then ((stratumref07_bare.f a0_0 a0_1 a0_2 l0_3 l0_4 a0_5 l0_6 a0_7 a0_8 l0_9 (⟨#[73, 78, 70]⟩ : ByteArray)).bind fun t136 => (if t136 = true then ((stratumref07_SoundNodes.f k l0_3).bind fun t137 => (if t137 = true then ((stratumref07_SoundFacts.f k l0_4).bind fun t138 => (some t138)) else (some false))) else (some false))) else (if a0_0 = 2 then ((stratumref07_bare.f a0_0 a0_1 a0_2 l0_3 l0_4 a0_5 l0_6 a0_7 a0_8 l0_9 (⟨#[73, 65, 78]⟩ : ByteArray)).bind fun t139 => (if t139 = true then ((stratumref07_SoundNodes.f k l0_3).bind fun t140 => (some t140)) else (some false))) else (if a0_0 = 3 then (stratumref07_Sound.j0 k a0_0 (a0_0 == 3) a0_0 a0_1 a0_2 l0_3 l0_4 a0_5 l0_6 a0_7 a0_8 l0_9) else (if a0_0 = 4 then (stratumref07_Sound.j0 k a0_0 (a0_0 == 4) a0_0 a0_1 a0_2 l0_3 l0_4 a0_5 l0_6 a0_7 a0_8 l0_9) else (stratumref07_Sound.j0 k a0_0 (a0_0 == 5) a0_0 a0_1 a0_2 l0_3 l0_4 a0_5 l0_6 a0_7 a0_8 l0_9))))) = some r := h
  clear h
  by_cases c2 : a0_0 = 1
  · rw [if_pos c2] at H
    have c2b0 : (a0_0 == 1) = true := beq_iff_eq.mpr c2
    have c2b1 : (a0_0 != 1) = false := bne_eq_false_iff_eq.mpr c2
    clear c2
    replace H := Option.bind_eq_some_iff.mp H
    obtain ⟨t136, A30, H⟩ := H
    replace H : (if t136 = true then ((stratumref07_SoundNodes.f k l0_3).bind fun t137 => (if t137 = true then ((stratumref07_SoundFacts.f k l0_4).bind fun t138 => (some t138)) else (some false))) else (some false)) = some r := H
    have A3 := iC.mk A30
    clear A30
    by_cases c4 : t136 = true
    · subst c4
      have H1 : ((stratumref07_SoundNodes.f k l0_3).bind fun t137 => (if t137 = true then ((stratumref07_SoundFacts.f k l0_4).bind fun t138 => (some t138)) else (some false))) = some r := by rw [if_pos rfl] at H; exact H
      clear H
      have H := H1
      clear H1
      replace H := Option.bind_eq_some_iff.mp H
      obtain ⟨t137, A50, H⟩ := H
      replace H : (if t137 = true then ((stratumref07_SoundFacts.f k l0_4).bind fun t138 => (some t138)) else (some false)) = some r := H
      have A5 := iC.mk A50
      clear A50
      by_cases c6 : t137 = true
      · subst c6
        have H1 : ((stratumref07_SoundFacts.f k l0_4).bind fun t138 => (some t138)) = some r := by rw [if_pos rfl] at H; exact H
        clear H
        have H := H1
        clear H1
        replace H := Option.bind_eq_some_iff.mp H
        obtain ⟨t138, A70, H⟩ := H
        replace H : (some t138) = some r := H
        have A7 := iC.mk A70
        clear A70
        obtain rfl := Option.some.inj H
        go_enter Tryd.func20, Tryd.ntmps20
        go_wp2_with (first | ((with_reducible refine jY (N := 1) rfl ?_); refine jV ?hg (N := 1) ?hd (cs := #[.int .u8 a0_0, .int .u32 a0_1, .int .u32 a0_2, .slice A0_3 l0_3.length c0_3, .slice A0_4 l0_4.length c0_4, .int .u32 a0_5, .slice A0_6 l0_6.length c0_6, .int .i64 a0_7, .int .i64 a0_8, .slice A0_9 l0_9.length c0_9]) (t := 30) ?hr ?_; (case hd => rfl); (case hg => rfl); (case hr => first | (go_simp; done) | (go_simp; rfl)); intro gb135 hg w8 hbox hb; have n0_ := iC.mk (iI hb_ hb); have n1_ := iC.mk (hbox); have n2_ := iC.mk ((by rw [hg]; exact (iW hb_) : w.heap.size ≤ gb135)); have n3_ := iC.mk ((by rw [hg]; exact (iW hb_) : w.heap.size ≤ gb135)); clear HB; have HB := n0_; have BK135 := n1_; have GW135 := n2_; have GE135 := n3_; clear n0_ n1_ n2_ n3_; clear hb hbox hg; have hcz9_0 : w8.cell? ⟨gb135, 0, none⟩ = some (.int .u8 a0_0) := (iE BK135.out 0).trans rfl; have hcz9_1 : w8.cell? ⟨gb135, 1, none⟩ = some (.int .u32 a0_1) := (iE BK135.out 1).trans rfl; have hcz9_2 : w8.cell? ⟨gb135, 2, none⟩ = some (.int .u32 a0_2) := (iE BK135.out 2).trans rfl; have hcz9_3 : w8.cell? ⟨gb135, 3, none⟩ = some (.slice A0_3 l0_3.length c0_3) := (iE BK135.out 3).trans rfl; have hcz9_4 : w8.cell? ⟨gb135, 4, none⟩ = some (.slice A0_4 l0_4.length c0_4) := (iE BK135.out 4).trans rfl; have hcz9_5 : w8.cell? ⟨gb135, 5, none⟩ = some (.int .u32 a0_5) := (iE BK135.out 5).trans rfl; have hcz9_6 : w8.cell? ⟨gb135, 6, none⟩ = some (.slice A0_6 l0_6.length c0_6) := (iE BK135.out 6).trans rfl; have hcz9_7 : w8.cell? ⟨gb135, 7, none⟩ = some (.int .i64 a0_7) := (iE BK135.out 7).trans rfl; have hcz9_8 : w8.cell? ⟨gb135, 8, none⟩ = some (.int .i64 a0_8) := (iE BK135.out 8).trans rfl; have hcz9_9 : w8.cell? ⟨gb135, 9, none⟩ = some (.slice A0_9 l0_9.length c0_9) := (iE BK135.out 9).trans rfl; have hfz9_0 := iD BK135.out 0; have hfz9_1 := iD BK135.out 1; have hfz9_2 := iD BK135.out 2; have hfz9_3 := iD BK135.out 3; have hfz9_4 := iD BK135.out 4; have hfz9_5 := iD BK135.out 5; have hfz9_6 := iD BK135.out 6; have hfz9_7 := iD BK135.out 7; have hfz9_8 := iD BK135.out 8; have hfz9_9 := iD BK135.out 9) | ((with_reducible refine jS (f := 68) rfl ?_); refine lV (some 8) rfl rfl Tryd.func68 (by kernel_rfl) rfl #[.agg #[.int .u8 a0_0, .int .u32 a0_1, .int .u32 a0_2, .slice A0_3 l0_3.length c0_3, .slice A0_4 l0_4.length c0_4, .int .u32 a0_5, .slice A0_6 l0_6.length c0_6, .int .i64 a0_7, .int .i64 a0_8, .slice A0_9 l0_9.length c0_9], .string (⟨#[73, 78, 70]⟩ : ByteArray)] rfl (by (try simp only [List.map_toArray, List.map_cons, List.map_nil]); first | done | rfl | (simp only [List.length_drop, List.length_take]; rfl)) ?_; (with_reducible refine (stratumref07_bare.calls a0_0 a0_1 a0_2 _ _ l0_3 _ _ l0_4 a0_5 _ _ l0_6 a0_7 a0_8 _ _ l0_9 (⟨#[73, 78, 70]⟩ : ByteArray) true _ ?side1 ?side2 ?side3 ?side4 ?side5 ?side6 ?side7 ?side8 A3.out).mono ?_); (case side1 => repeat (first | exact (Kd.C_below HR0_3.out HB.out) | (with_reducible refine Kd.C_alloc ?_ _) | (with_reducible refine Kd.C_drewN ?_ _) | (with_reducible refine Kd.C_drew ?_))); (case side2 => exact HC0_3.out); (case side3 => repeat (first | exact (Kd.C_below HR0_4.out HB.out) | (with_reducible refine Kd.C_alloc ?_ _) | (with_reducible refine Kd.C_drewN ?_ _) | (with_reducible refine Kd.C_drew ?_))); (case side4 => exact HC0_4.out); (case side5 => repeat (first | exact (Kd.C_below HR0_6.out HB.out) | (with_reducible refine Kd.C_alloc ?_ _) | (with_reducible refine Kd.C_drewN ?_ _) | (with_reducible refine Kd.C_drew ?_))); (case side6 => exact HC0_6.out); (case side7 => repeat (first | exact (Kd.C_below HR0_9.out HB.out) | (with_reducible refine Kd.C_alloc ?_ _) | (with_reducible refine Kd.C_drewN ?_ _) | (with_reducible refine Kd.C_drew ?_))); (case side8 => exact HC0_9.out); rintro e w10 ⟨rfl, hb⟩; refine ⟨_, rfl, ?_⟩; have n0_ := iC.mk (jX (g := gb135) (o := .cells #[.int .u8 a0_0, .int .u32 a0_1, .int .u32 a0_2, .slice A0_3 l0_3.length c0_3, .slice A0_4 l0_4.length c0_4, .int .u32 a0_5, .slice A0_6 l0_6.length c0_6, .int .i64 a0_7, .int .i64 a0_8, .slice A0_9 l0_9.length c0_9] 30 (0, 0)) (bk_ BK135.out) hb); have n1_ := iC.mk (iI (by repeat (first | (with_reducible first | exact HB.out | apply iF | apply iG | apply iJ | refine iM ?_ GE135.out) | exact HB.out)) hb); clear BK135; clear HB; have BK135 := n0_; have HB := n1_; clear n0_ n1_; (try clear hb); (try clear hb2); (try clear hk); (try clear hi); have hcz11_0 : w10.cell? ⟨gb135, 0, none⟩ = some (.int .u8 a0_0) := (iE BK135.out 0).trans rfl; have hcz11_1 : w10.cell? ⟨gb135, 1, none⟩ = some (.int .u32 a0_1) := (iE BK135.out 1).trans rfl; have hcz11_2 : w10.cell? ⟨gb135, 2, none⟩ = some (.int .u32 a0_2) := (iE BK135.out 2).trans rfl; have hcz11_3 : w10.cell? ⟨gb135, 3, none⟩ = some (.slice A0_3 l0_3.length c0_3) := (iE BK135.out 3).trans rfl; have hcz11_4 : w10.cell? ⟨gb135, 4, none⟩ = some (.slice A0_4 l0_4.length c0_4) := (iE BK135.out 4).trans rfl; have hcz11_5 : w10.cell? ⟨gb135, 5, none⟩ = some (.int .u32 a0_5) := (iE BK135.out 5).trans rfl; have hcz11_6 : w10.cell? ⟨gb135, 6, none⟩ = some (.slice A0_6 l0_6.length c0_6) := (iE BK135.out 6).trans rfl; have hcz11_7 : w10.cell? ⟨gb135, 7, none⟩ = some (.int .i64 a0_7) := (iE BK135.out 7).trans rfl; have hcz11_8 : w10.cell? ⟨gb135, 8, none⟩ = some (.int .i64 a0_8) := (iE BK135.out 8).trans rfl; have hcz11_9 : w10.cell? ⟨gb135, 9, none⟩ = some (.slice A0_9 l0_9.length c0_9) := (iE BK135.out 9).trans rfl; have hfz11_0 := iD BK135.out 0; have hfz11_1 := iD BK135.out 1; have hfz11_2 := iD BK135.out 2; have hfz11_3 := iD BK135.out 3; have hfz11_4 := iD BK135.out 4; have hfz11_5 := iD BK135.out 5; have hfz11_6 := iD BK135.out 6; have hfz11_7 := iD BK135.out 7; have hfz11_8 := iD BK135.out 8; have hfz11_9 := iD BK135.out 9) | (go_at_call 69; (with_reducible refine (stratumref07_SoundNodes.calls k _ _ l0_3 true _ ?side1 ?side2 A5.out).mono ?_); (case side1 => repeat (first | exact (Kd.C_below HR0_3.out HB.out) | (with_reducible refine Kd.C_alloc ?_ _) | (with_reducible refine Kd.C_drewN ?_ _) | (with_reducible refine Kd.C_drew ?_))); (case side2 => exact HC0_3.out); rintro e w' ⟨rfl, ⟨nd, rfl⟩⟩) | (go_at_call 70; (with_reducible refine (stratumref07_SoundFacts.calls k _ _ l0_4 t138 _ ?side1 ?side2 A7.out).mono ?_); (case side1 => repeat (first | exact (Kd.C_below HR0_4.out (by repeat (first | (with_reducible first | exact HB.out | apply iF | apply iG | apply iJ | refine iM ?_ GE135.out) | exact HB.out))) | (with_reducible refine Kd.C_alloc ?_ _) | (with_reducible refine Kd.C_drewN ?_ _) | (with_reducible refine Kd.C_drew ?_))); (case side2 => exact HC0_4.out); rintro e w' ⟨rfl, ⟨nd, rfl⟩⟩))
        go_ret
        exact ⟨by first | rfl | (simp [iT, iU] <;> rfl) | (simp [*, iT, iU] <;> rfl), by repeat (first | (with_reducible first | exact HB.out | apply iF | apply iG | apply iJ | refine iM ?_ GE135.out) | exact HB.out)⟩
      · replace c6 := Bool.eq_false_iff.mpr c6
        subst c6
        have H1 : (some false) = some r := by rw [if_neg (show ¬ (false = true) by decide)] at H; exact H
        clear H
        have H := H1
        clear H1
        obtain rfl := Option.some.inj H
        go_enter Tryd.func20, Tryd.ntmps20
        go_wp2_with (first | ((with_reducible refine jY (N := 1) rfl ?_); refine jV ?hg (N := 1) ?hd (cs := #[.int .u8 a0_0, .int .u32 a0_1, .int .u32 a0_2, .slice A0_3 l0_3.length c0_3, .slice A0_4 l0_4.length c0_4, .int .u32 a0_5, .slice A0_6 l0_6.length c0_6, .int .i64 a0_7, .int .i64 a0_8, .slice A0_9 l0_9.length c0_9]) (t := 30) ?hr ?_; (case hd => rfl); (case hg => rfl); (case hr => first | (go_simp; done) | (go_simp; rfl)); intro gb135 hg w12 hbox hb; have n0_ := iC.mk (iI hb_ hb); have n1_ := iC.mk (hbox); have n2_ := iC.mk ((by rw [hg]; exact (iW hb_) : w.heap.size ≤ gb135)); have n3_ := iC.mk ((by rw [hg]; exact (iW hb_) : w.heap.size ≤ gb135)); clear HB; have HB := n0_; have BK135 := n1_; have GW135 := n2_; have GE135 := n3_; clear n0_ n1_ n2_ n3_; clear hb hbox hg; have hcz13_0 : w12.cell? ⟨gb135, 0, none⟩ = some (.int .u8 a0_0) := (iE BK135.out 0).trans rfl; have hcz13_1 : w12.cell? ⟨gb135, 1, none⟩ = some (.int .u32 a0_1) := (iE BK135.out 1).trans rfl; have hcz13_2 : w12.cell? ⟨gb135, 2, none⟩ = some (.int .u32 a0_2) := (iE BK135.out 2).trans rfl; have hcz13_3 : w12.cell? ⟨gb135, 3, none⟩ = some (.slice A0_3 l0_3.length c0_3) := (iE BK135.out 3).trans rfl; have hcz13_4 : w12.cell? ⟨gb135, 4, none⟩ = some (.slice A0_4 l0_4.length c0_4) := (iE BK135.out 4).trans rfl; have hcz13_5 : w12.cell? ⟨gb135, 5, none⟩ = some (.int .u32 a0_5) := (iE BK135.out 5).trans rfl; have hcz13_6 : w12.cell? ⟨gb135, 6, none⟩ = some (.slice A0_6 l0_6.length c0_6) := (iE BK135.out 6).trans rfl; have hcz13_7 : w12.cell? ⟨gb135, 7, none⟩ = some (.int .i64 a0_7) := (iE BK135.out 7).trans rfl; have hcz13_8 : w12.cell? ⟨gb135, 8, none⟩ = some (.int .i64 a0_8) := (iE BK135.out 8).trans rfl; have hcz13_9 : w12.cell? ⟨gb135, 9, none⟩ = some (.slice A0_9 l0_9.length c0_9) := (iE BK135.out 9).trans rfl; have hfz13_0 := iD BK135.out 0; have hfz13_1 := iD BK135.out 1; have hfz13_2 := iD BK135.out 2; have hfz13_3 := iD BK135.out 3; have hfz13_4 := iD BK135.out 4; have hfz13_5 := iD BK135.out 5; have hfz13_6 := iD BK135.out 6; have hfz13_7 := iD BK135.out 7; have hfz13_8 := iD BK135.out 8; have hfz13_9 := iD BK135.out 9) | ((with_reducible refine jS (f := 68) rfl ?_); refine lV (some 8) rfl rfl Tryd.func68 (by kernel_rfl) rfl #[.agg #[.int .u8 a0_0, .int .u32 a0_1, .int .u32 a0_2, .slice A0_3 l0_3.length c0_3, .slice A0_4 l0_4.length c0_4, .int .u32 a0_5, .slice A0_6 l0_6.length c0_6, .int .i64 a0_7, .int .i64 a0_8, .slice A0_9 l0_9.length c0_9], .string (⟨#[73, 78, 70]⟩ : ByteArray)] rfl (by (try simp only [List.map_toArray, List.map_cons, List.map_nil]); first | done | rfl | (simp only [List.length_drop, List.length_take]; rfl)) ?_; (with_reducible refine (stratumref07_bare.calls a0_0 a0_1 a0_2 _ _ l0_3 _ _ l0_4 a0_5 _ _ l0_6 a0_7 a0_8 _ _ l0_9 (⟨#[73, 78, 70]⟩ : ByteArray) true _ ?side1 ?side2 ?side3 ?side4 ?side5 ?side6 ?side7 ?side8 A3.out).mono ?_); (case side1 => repeat (first | exact (Kd.C_below HR0_3.out HB.out) | (with_reducible refine Kd.C_alloc ?_ _) | (with_reducible refine Kd.C_drewN ?_ _) | (with_reducible refine Kd.C_drew ?_))); (case side2 => exact HC0_3.out); (case side3 => repeat (first | exact (Kd.C_below HR0_4.out HB.out) | (with_reducible refine Kd.C_alloc ?_ _) | (with_reducible refine Kd.C_drewN ?_ _) | (with_reducible refine Kd.C_drew ?_))); (case side4 => exact HC0_4.out); (case side5 => repeat (first | exact (Kd.C_below HR0_6.out HB.out) | (with_reducible refine Kd.C_alloc ?_ _) | (with_reducible refine Kd.C_drewN ?_ _) | (with_reducible refine Kd.C_drew ?_))); (case side6 => exact HC0_6.out); (case side7 => repeat (first | exact (Kd.C_below HR0_9.out HB.out) | (with_reducible refine Kd.C_alloc ?_ _) | (with_reducible refine Kd.C_drewN ?_ _) | (with_reducible refine Kd.C_drew ?_))); (case side8 => exact HC0_9.out); rintro e w14 ⟨rfl, hb⟩; refine ⟨_, rfl, ?_⟩; have n0_ := iC.mk (jX (g := gb135) (o := .cells #[.int .u8 a0_0, .int .u32 a0_1, .int .u32 a0_2, .slice A0_3 l0_3.length c0_3, .slice A0_4 l0_4.length c0_4, .int .u32 a0_5, .slice A0_6 l0_6.length c0_6, .int .i64 a0_7, .int .i64 a0_8, .slice A0_9 l0_9.length c0_9] 30 (0, 0)) (bk_ BK135.out) hb); have n1_ := iC.mk (iI (by repeat (first | (with_reducible first | exact HB.out | apply iF | apply iG | apply iJ | refine iM ?_ GE135.out) | exact HB.out)) hb); clear BK135; clear HB; have BK135 := n0_; have HB := n1_; clear n0_ n1_; (try clear hb); (try clear hb2); (try clear hk); (try clear hi); have hcz15_0 : w14.cell? ⟨gb135, 0, none⟩ = some (.int .u8 a0_0) := (iE BK135.out 0).trans rfl; have hcz15_1 : w14.cell? ⟨gb135, 1, none⟩ = some (.int .u32 a0_1) := (iE BK135.out 1).trans rfl; have hcz15_2 : w14.cell? ⟨gb135, 2, none⟩ = some (.int .u32 a0_2) := (iE BK135.out 2).trans rfl; have hcz15_3 : w14.cell? ⟨gb135, 3, none⟩ = some (.slice A0_3 l0_3.length c0_3) := (iE BK135.out 3).trans rfl; have hcz15_4 : w14.cell? ⟨gb135, 4, none⟩ = some (.slice A0_4 l0_4.length c0_4) := (iE BK135.out 4).trans rfl; have hcz15_5 : w14.cell? ⟨gb135, 5, none⟩ = some (.int .u32 a0_5) := (iE BK135.out 5).trans rfl; have hcz15_6 : w14.cell? ⟨gb135, 6, none⟩ = some (.slice A0_6 l0_6.length c0_6) := (iE BK135.out 6).trans rfl; have hcz15_7 : w14.cell? ⟨gb135, 7, none⟩ = some (.int .i64 a0_7) := (iE BK135.out 7).trans rfl; have hcz15_8 : w14.cell? ⟨gb135, 8, none⟩ = some (.int .i64 a0_8) := (iE BK135.out 8).trans rfl; have hcz15_9 : w14.cell? ⟨gb135, 9, none⟩ = some (.slice A0_9 l0_9.length c0_9) := (iE BK135.out 9).trans rfl; have hfz15_0 := iD BK135.out 0; have hfz15_1 := iD BK135.out 1; have hfz15_2 := iD BK135.out 2; have hfz15_3 := iD BK135.out 3; have hfz15_4 := iD BK135.out 4; have hfz15_5 := iD BK135.out 5; have hfz15_6 := iD BK135.out 6; have hfz15_7 := iD BK135.out 7; have hfz15_8 := iD BK135.out 8; have hfz15_9 := iD BK135.out 9) | (go_at_call 69; (with_reducible refine (stratumref07_SoundNodes.calls k _ _ l0_3 false _ ?side1 ?side2 A5.out).mono ?_); (case side1 => repeat (first | exact (Kd.C_below HR0_3.out HB.out) | (with_reducible refine Kd.C_alloc ?_ _) | (with_reducible refine Kd.C_drewN ?_ _) | (with_reducible refine Kd.C_drew ?_))); (case side2 => exact HC0_3.out); rintro e w' ⟨rfl, ⟨nd, rfl⟩⟩))
        go_ret
        exact ⟨by first | rfl | (simp [iT, iU] <;> rfl) | (simp [*, iT, iU] <;> rfl), by repeat (first | (with_reducible first | exact HB.out | apply iF | apply iG | apply iJ | refine iM ?_ GE135.out) | exact HB.out)⟩
    · replace c4 := Bool.eq_false_iff.mpr c4
      subst c4
      have H1 : (some false) = some r := by rw [if_neg (show ¬ (false = true) by decide)] at H; exact H
      clear H
      have H := H1
      clear H1
      obtain rfl := Option.some.inj H
      go_enter Tryd.func20, Tryd.ntmps20
      go_wp2_with (first | ((with_reducible refine jY (N := 1) rfl ?_); refine jV ?hg (N := 1) ?hd (cs := #[.int .u8 a0_0, .int .u32 a0_1, .int .u32 a0_2, .slice A0_3 l0_3.length c0_3, .slice A0_4 l0_4.length c0_4, .int .u32 a0_5, .slice A0_6 l0_6.length c0_6, .int .i64 a0_7, .int .i64 a0_8, .slice A0_9 l0_9.length c0_9]) (t := 30) ?hr ?_; (case hd => rfl); (case hg => rfl); (case hr => first | (go_simp; done) | (go_simp; rfl)); intro gb135 hg w16 hbox hb; have n0_ := iC.mk (iI hb_ hb); have n1_ := iC.mk (hbox); have n2_ := iC.mk ((by rw [hg]; exact (iW hb_) : w.heap.size ≤ gb135)); have n3_ := iC.mk ((by rw [hg]; exact (iW hb_) : w.heap.size ≤ gb135)); clear HB; have HB := n0_; have BK135 := n1_; have GW135 := n2_; have GE135 := n3_; clear n0_ n1_ n2_ n3_; clear hb hbox hg; have hcz17_0 : w16.cell? ⟨gb135, 0, none⟩ = some (.int .u8 a0_0) := (iE BK135.out 0).trans rfl; have hcz17_1 : w16.cell? ⟨gb135, 1, none⟩ = some (.int .u32 a0_1) := (iE BK135.out 1).trans rfl; have hcz17_2 : w16.cell? ⟨gb135, 2, none⟩ = some (.int .u32 a0_2) := (iE BK135.out 2).trans rfl; have hcz17_3 : w16.cell? ⟨gb135, 3, none⟩ = some (.slice A0_3 l0_3.length c0_3) := (iE BK135.out 3).trans rfl; have hcz17_4 : w16.cell? ⟨gb135, 4, none⟩ = some (.slice A0_4 l0_4.length c0_4) := (iE BK135.out 4).trans rfl; have hcz17_5 : w16.cell? ⟨gb135, 5, none⟩ = some (.int .u32 a0_5) := (iE BK135.out 5).trans rfl; have hcz17_6 : w16.cell? ⟨gb135, 6, none⟩ = some (.slice A0_6 l0_6.length c0_6) := (iE BK135.out 6).trans rfl; have hcz17_7 : w16.cell? ⟨gb135, 7, none⟩ = some (.int .i64 a0_7) := (iE BK135.out 7).trans rfl; have hcz17_8 : w16.cell? ⟨gb135, 8, none⟩ = some (.int .i64 a0_8) := (iE BK135.out 8).trans rfl; have hcz17_9 : w16.cell? ⟨gb135, 9, none⟩ = some (.slice A0_9 l0_9.length c0_9) := (iE BK135.out 9).trans rfl; have hfz17_0 := iD BK135.out 0; have hfz17_1 := iD BK135.out 1; have hfz17_2 := iD BK135.out 2; have hfz17_3 := iD BK135.out 3; have hfz17_4 := iD BK135.out 4; have hfz17_5 := iD BK135.out 5; have hfz17_6 := iD BK135.out 6; have hfz17_7 := iD BK135.out 7; have hfz17_8 := iD BK135.out 8; have hfz17_9 := iD BK135.out 9) | ((with_reducible refine jS (f := 68) rfl ?_); refine lV (some 8) rfl rfl Tryd.func68 (by kernel_rfl) rfl #[.agg #[.int .u8 a0_0, .int .u32 a0_1, .int .u32 a0_2, .slice A0_3 l0_3.length c0_3, .slice A0_4 l0_4.length c0_4, .int .u32 a0_5, .slice A0_6 l0_6.length c0_6, .int .i64 a0_7, .int .i64 a0_8, .slice A0_9 l0_9.length c0_9], .string (⟨#[73, 78, 70]⟩ : ByteArray)] rfl (by (try simp only [List.map_toArray, List.map_cons, List.map_nil]); first | done | rfl | (simp only [List.length_drop, List.length_take]; rfl)) ?_; (with_reducible refine (stratumref07_bare.calls a0_0 a0_1 a0_2 _ _ l0_3 _ _ l0_4 a0_5 _ _ l0_6 a0_7 a0_8 _ _ l0_9 (⟨#[73, 78, 70]⟩ : ByteArray) false _ ?side1 ?side2 ?side3 ?side4 ?side5 ?side6 ?side7 ?side8 A3.out).mono ?_); (case side1 => repeat (first | exact (Kd.C_below HR0_3.out HB.out) | (with_reducible refine Kd.C_alloc ?_ _) | (with_reducible refine Kd.C_drewN ?_ _) | (with_reducible refine Kd.C_drew ?_))); (case side2 => exact HC0_3.out); (case side3 => repeat (first | exact (Kd.C_below HR0_4.out HB.out) | (with_reducible refine Kd.C_alloc ?_ _) | (with_reducible refine Kd.C_drewN ?_ _) | (with_reducible refine Kd.C_drew ?_))); (case side4 => exact HC0_4.out); (case side5 => repeat (first | exact (Kd.C_below HR0_6.out HB.out) | (with_reducible refine Kd.C_alloc ?_ _) | (with_reducible refine Kd.C_drewN ?_ _) | (with_reducible refine Kd.C_drew ?_))); (case side6 => exact HC0_6.out); (case side7 => repeat (first | exact (Kd.C_below HR0_9.out HB.out) | (with_reducible refine Kd.C_alloc ?_ _) | (with_reducible refine Kd.C_drewN ?_ _) | (with_reducible refine Kd.C_drew ?_))); (case side8 => exact HC0_9.out); rintro e w18 ⟨rfl, hb⟩; refine ⟨_, rfl, ?_⟩; have n0_ := iC.mk (jX (g := gb135) (o := .cells #[.int .u8 a0_0, .int .u32 a0_1, .int .u32 a0_2, .slice A0_3 l0_3.length c0_3, .slice A0_4 l0_4.length c0_4, .int .u32 a0_5, .slice A0_6 l0_6.length c0_6, .int .i64 a0_7, .int .i64 a0_8, .slice A0_9 l0_9.length c0_9] 30 (0, 0)) (bk_ BK135.out) hb); have n1_ := iC.mk (iI (by repeat (first | (with_reducible first | exact HB.out | apply iF | apply iG | apply iJ | refine iM ?_ GE135.out) | exact HB.out)) hb); clear BK135; clear HB; have BK135 := n0_; have HB := n1_; clear n0_ n1_; (try clear hb); (try clear hb2); (try clear hk); (try clear hi)))
      go_ret
      exact ⟨by first | rfl | (simp [iT, iU] <;> rfl) | (simp [*, iT, iU] <;> rfl), by repeat (first | (with_reducible first | exact HB.out | apply iF | apply iG | apply iJ | refine iM ?_ GE135.out) | exact HB.out)⟩
  · rw [if_neg c2] at H
    have c2b0 : (a0_0 == 1) = false := beq_eq_false_iff_ne.mpr c2
    have c2b1 : (a0_0 != 1) = true := bne_iff_ne.mpr c2
    by_cases c19 : a0_0 = 2
    · rw [if_pos c19] at H
      have c19b0 : (a0_0 == 2) = true := beq_iff_eq.mpr c19
      have c19b1 : (a0_0 != 2) = false := bne_eq_false_iff_eq.mpr c19
      clear c19
      replace H := Option.bind_eq_some_iff.mp H
      obtain ⟨t139, A200, H⟩ := H
      replace H : (if t139 = true then ((stratumref07_SoundNodes.f k l0_3).bind fun t140 => (some t140)) else (some false)) = some r := H
      have A20 := iC.mk A200
      clear A200
      by_cases c21 : t139 = true
      · subst c21
        have H1 : ((stratumref07_SoundNodes.f k l0_3).bind fun t140 => (some t140)) = some r := by rw [if_pos rfl] at H; exact H
        clear H
        have H := H1
        clear H1
        replace H := Option.bind_eq_some_iff.mp H
        obtain ⟨t140, A220, H⟩ := H
        replace H : (some t140) = some r := H
        have A22 := iC.mk A220
        clear A220
        obtain rfl := Option.some.inj H
        go_enter Tryd.func20, Tryd.ntmps20
        go_wp2_with (first | ((with_reducible refine jY (N := 1) rfl ?_); refine jV ?hg (N := 1) ?hd (cs := #[.int .u8 a0_0, .int .u32 a0_1, .int .u32 a0_2, .slice A0_3 l0_3.length c0_3, .slice A0_4 l0_4.length c0_4, .int .u32 a0_5, .slice A0_6 l0_6.length c0_6, .int .i64 a0_7, .int .i64 a0_8, .slice A0_9 l0_9.length c0_9]) (t := 30) ?hr ?_; (case hd => rfl); (case hg => rfl); (case hr => first | (go_simp; done) | (go_simp; rfl)); intro gb135 hg w23 hbox hb; have n0_ := iC.mk (iI hb_ hb); have n1_ := iC.mk (hbox); have n2_ := iC.mk ((by rw [hg]; exact (iW hb_) : w.heap.size ≤ gb135)); have n3_ := iC.mk ((by rw [hg]; exact (iW hb_) : w.heap.size ≤ gb135)); clear HB; have HB := n0_; have BK135 := n1_; have GW135 := n2_; have GE135 := n3_; clear n0_ n1_ n2_ n3_; clear hb hbox hg; have hcz24_0 : w23.cell? ⟨gb135, 0, none⟩ = some (.int .u8 a0_0) := (iE BK135.out 0).trans rfl; have hcz24_1 : w23.cell? ⟨gb135, 1, none⟩ = some (.int .u32 a0_1) := (iE BK135.out 1).trans rfl; have hcz24_2 : w23.cell? ⟨gb135, 2, none⟩ = some (.int .u32 a0_2) := (iE BK135.out 2).trans rfl; have hcz24_3 : w23.cell? ⟨gb135, 3, none⟩ = some (.slice A0_3 l0_3.length c0_3) := (iE BK135.out 3).trans rfl; have hcz24_4 : w23.cell? ⟨gb135, 4, none⟩ = some (.slice A0_4 l0_4.length c0_4) := (iE BK135.out 4).trans rfl; have hcz24_5 : w23.cell? ⟨gb135, 5, none⟩ = some (.int .u32 a0_5) := (iE BK135.out 5).trans rfl; have hcz24_6 : w23.cell? ⟨gb135, 6, none⟩ = some (.slice A0_6 l0_6.length c0_6) := (iE BK135.out 6).trans rfl; have hcz24_7 : w23.cell? ⟨gb135, 7, none⟩ = some (.int .i64 a0_7) := (iE BK135.out 7).trans rfl; have hcz24_8 : w23.cell? ⟨gb135, 8, none⟩ = some (.int .i64 a0_8) := (iE BK135.out 8).trans rfl; have hcz24_9 : w23.cell? ⟨gb135, 9, none⟩ = some (.slice A0_9 l0_9.length c0_9) := (iE BK135.out 9).trans rfl; have hfz24_0 := iD BK135.out 0; have hfz24_1 := iD BK135.out 1; have hfz24_2 := iD BK135.out 2; have hfz24_3 := iD BK135.out 3; have hfz24_4 := iD BK135.out 4; have hfz24_5 := iD BK135.out 5; have hfz24_6 := iD BK135.out 6; have hfz24_7 := iD BK135.out 7; have hfz24_8 := iD BK135.out 8; have hfz24_9 := iD BK135.out 9) | ((with_reducible refine jS (f := 68) rfl ?_); refine lV (some 22) rfl rfl Tryd.func68 (by kernel_rfl) rfl #[.agg #[.int .u8 a0_0, .int .u32 a0_1, .int .u32 a0_2, .slice A0_3 l0_3.length c0_3, .slice A0_4 l0_4.length c0_4, .int .u32 a0_5, .slice A0_6 l0_6.length c0_6, .int .i64 a0_7, .int .i64 a0_8, .slice A0_9 l0_9.length c0_9], .string (⟨#[73, 65, 78]⟩ : ByteArray)] rfl (by (try simp only [List.map_toArray, List.map_cons, List.map_nil]); first | done | rfl | (simp only [List.length_drop, List.length_take]; rfl)) ?_; (with_reducible refine (stratumref07_bare.calls a0_0 a0_1 a0_2 _ _ l0_3 _ _ l0_4 a0_5 _ _ l0_6 a0_7 a0_8 _ _ l0_9 (⟨#[73, 65, 78]⟩ : ByteArray) true _ ?side1 ?side2 ?side3 ?side4 ?side5 ?side6 ?side7 ?side8 A20.out).mono ?_); (case side1 => repeat (first | exact (Kd.C_below HR0_3.out HB.out) | (with_reducible refine Kd.C_alloc ?_ _) | (with_reducible refine Kd.C_drewN ?_ _) | (with_reducible refine Kd.C_drew ?_))); (case side2 => exact HC0_3.out); (case side3 => repeat (first | exact (Kd.C_below HR0_4.out HB.out) | (with_reducible refine Kd.C_alloc ?_ _) | (with_reducible refine Kd.C_drewN ?_ _) | (with_reducible refine Kd.C_drew ?_))); (case side4 => exact HC0_4.out); (case side5 => repeat (first | exact (Kd.C_below HR0_6.out HB.out) | (with_reducible refine Kd.C_alloc ?_ _) | (with_reducible refine Kd.C_drewN ?_ _) | (with_reducible refine Kd.C_drew ?_))); (case side6 => exact HC0_6.out); (case side7 => repeat (first | exact (Kd.C_below HR0_9.out HB.out) | (with_reducible refine Kd.C_alloc ?_ _) | (with_reducible refine Kd.C_drewN ?_ _) | (with_reducible refine Kd.C_drew ?_))); (case side8 => exact HC0_9.out); rintro e w25 ⟨rfl, hb⟩; refine ⟨_, rfl, ?_⟩; have n0_ := iC.mk (jX (g := gb135) (o := .cells #[.int .u8 a0_0, .int .u32 a0_1, .int .u32 a0_2, .slice A0_3 l0_3.length c0_3, .slice A0_4 l0_4.length c0_4, .int .u32 a0_5, .slice A0_6 l0_6.length c0_6, .int .i64 a0_7, .int .i64 a0_8, .slice A0_9 l0_9.length c0_9] 30 (0, 0)) (bk_ BK135.out) hb); have n1_ := iC.mk (iI (by repeat (first | (with_reducible first | exact HB.out | apply iF | apply iG | apply iJ | refine iM ?_ GE135.out) | exact HB.out)) hb); clear BK135; clear HB; have BK135 := n0_; have HB := n1_; clear n0_ n1_; (try clear hb); (try clear hb2); (try clear hk); (try clear hi); have hcz26_0 : w25.cell? ⟨gb135, 0, none⟩ = some (.int .u8 a0_0) := (iE BK135.out 0).trans rfl; have hcz26_1 : w25.cell? ⟨gb135, 1, none⟩ = some (.int .u32 a0_1) := (iE BK135.out 1).trans rfl; have hcz26_2 : w25.cell? ⟨gb135, 2, none⟩ = some (.int .u32 a0_2) := (iE BK135.out 2).trans rfl; have hcz26_3 : w25.cell? ⟨gb135, 3, none⟩ = some (.slice A0_3 l0_3.length c0_3) := (iE BK135.out 3).trans rfl; have hcz26_4 : w25.cell? ⟨gb135, 4, none⟩ = some (.slice A0_4 l0_4.length c0_4) := (iE BK135.out 4).trans rfl; have hcz26_5 : w25.cell? ⟨gb135, 5, none⟩ = some (.int .u32 a0_5) := (iE BK135.out 5).trans rfl; have hcz26_6 : w25.cell? ⟨gb135, 6, none⟩ = some (.slice A0_6 l0_6.length c0_6) := (iE BK135.out 6).trans rfl; have hcz26_7 : w25.cell? ⟨gb135, 7, none⟩ = some (.int .i64 a0_7) := (iE BK135.out 7).trans rfl; have hcz26_8 : w25.cell? ⟨gb135, 8, none⟩ = some (.int .i64 a0_8) := (iE BK135.out 8).trans rfl; have hcz26_9 : w25.cell? ⟨gb135, 9, none⟩ = some (.slice A0_9 l0_9.length c0_9) := (iE BK135.out 9).trans rfl; have hfz26_0 := iD BK135.out 0; have hfz26_1 := iD BK135.out 1; have hfz26_2 := iD BK135.out 2; have hfz26_3 := iD BK135.out 3; have hfz26_4 := iD BK135.out 4; have hfz26_5 := iD BK135.out 5; have hfz26_6 := iD BK135.out 6; have hfz26_7 := iD BK135.out 7; have hfz26_8 := iD BK135.out 8; have hfz26_9 := iD BK135.out 9) | (go_at_call 69; (with_reducible refine (stratumref07_SoundNodes.calls k _ _ l0_3 t140 _ ?side1 ?side2 A22.out).mono ?_); (case side1 => repeat (first | exact (Kd.C_below HR0_3.out HB.out) | (with_reducible refine Kd.C_alloc ?_ _) | (with_reducible refine Kd.C_drewN ?_ _) | (with_reducible refine Kd.C_drew ?_))); (case side2 => exact HC0_3.out); rintro e w' ⟨rfl, ⟨nd, rfl⟩⟩))
        go_ret
        exact ⟨by first | rfl | (simp [iT, iU] <;> rfl) | (simp [*, iT, iU] <;> rfl), by repeat (first | (with_reducible first | exact HB.out | apply iF | apply iG | apply iJ | refine iM ?_ GE135.out) | exact HB.out)⟩
      · replace c21 := Bool.eq_false_iff.mpr c21
        subst c21
        have H1 : (some false) = some r := by rw [if_neg (show ¬ (false = true) by decide)] at H; exact H
        clear H
        have H := H1
        clear H1
        obtain rfl := Option.some.inj H
        go_enter Tryd.func20, Tryd.ntmps20
        go_wp2_with (first | ((with_reducible refine jY (N := 1) rfl ?_); refine jV ?hg (N := 1) ?hd (cs := #[.int .u8 a0_0, .int .u32 a0_1, .int .u32 a0_2, .slice A0_3 l0_3.length c0_3, .slice A0_4 l0_4.length c0_4, .int .u32 a0_5, .slice A0_6 l0_6.length c0_6, .int .i64 a0_7, .int .i64 a0_8, .slice A0_9 l0_9.length c0_9]) (t := 30) ?hr ?_; (case hd => rfl); (case hg => rfl); (case hr => first | (go_simp; done) | (go_simp; rfl)); intro gb135 hg w27 hbox hb; have n0_ := iC.mk (iI hb_ hb); have n1_ := iC.mk (hbox); have n2_ := iC.mk ((by rw [hg]; exact (iW hb_) : w.heap.size ≤ gb135)); have n3_ := iC.mk ((by rw [hg]; exact (iW hb_) : w.heap.size ≤ gb135)); clear HB; have HB := n0_; have BK135 := n1_; have GW135 := n2_; have GE135 := n3_; clear n0_ n1_ n2_ n3_; clear hb hbox hg; have hcz28_0 : w27.cell? ⟨gb135, 0, none⟩ = some (.int .u8 a0_0) := (iE BK135.out 0).trans rfl; have hcz28_1 : w27.cell? ⟨gb135, 1, none⟩ = some (.int .u32 a0_1) := (iE BK135.out 1).trans rfl; have hcz28_2 : w27.cell? ⟨gb135, 2, none⟩ = some (.int .u32 a0_2) := (iE BK135.out 2).trans rfl; have hcz28_3 : w27.cell? ⟨gb135, 3, none⟩ = some (.slice A0_3 l0_3.length c0_3) := (iE BK135.out 3).trans rfl; have hcz28_4 : w27.cell? ⟨gb135, 4, none⟩ = some (.slice A0_4 l0_4.length c0_4) := (iE BK135.out 4).trans rfl; have hcz28_5 : w27.cell? ⟨gb135, 5, none⟩ = some (.int .u32 a0_5) := (iE BK135.out 5).trans rfl; have hcz28_6 : w27.cell? ⟨gb135, 6, none⟩ = some (.slice A0_6 l0_6.length c0_6) := (iE BK135.out 6).trans rfl; have hcz28_7 : w27.cell? ⟨gb135, 7, none⟩ = some (.int .i64 a0_7) := (iE BK135.out 7).trans rfl; have hcz28_8 : w27.cell? ⟨gb135, 8, none⟩ = some (.int .i64 a0_8) := (iE BK135.out 8).trans rfl; have hcz28_9 : w27.cell? ⟨gb135, 9, none⟩ = some (.slice A0_9 l0_9.length c0_9) := (iE BK135.out 9).trans rfl; have hfz28_0 := iD BK135.out 0; have hfz28_1 := iD BK135.out 1; have hfz28_2 := iD BK135.out 2; have hfz28_3 := iD BK135.out 3; have hfz28_4 := iD BK135.out 4; have hfz28_5 := iD BK135.out 5; have hfz28_6 := iD BK135.out 6; have hfz28_7 := iD BK135.out 7; have hfz28_8 := iD BK135.out 8; have hfz28_9 := iD BK135.out 9) | ((with_reducible refine jS (f := 68) rfl ?_); refine lV (some 22) rfl rfl Tryd.func68 (by kernel_rfl) rfl #[.agg #[.int .u8 a0_0, .int .u32 a0_1, .int .u32 a0_2, .slice A0_3 l0_3.length c0_3, .slice A0_4 l0_4.length c0_4, .int .u32 a0_5, .slice A0_6 l0_6.length c0_6, .int .i64 a0_7, .int .i64 a0_8, .slice A0_9 l0_9.length c0_9], .string (⟨#[73, 65, 78]⟩ : ByteArray)] rfl (by (try simp only [List.map_toArray, List.map_cons, List.map_nil]); first | done | rfl | (simp only [List.length_drop, List.length_take]; rfl)) ?_; (with_reducible refine (stratumref07_bare.calls a0_0 a0_1 a0_2 _ _ l0_3 _ _ l0_4 a0_5 _ _ l0_6 a0_7 a0_8 _ _ l0_9 (⟨#[73, 65, 78]⟩ : ByteArray) false _ ?side1 ?side2 ?side3 ?side4 ?side5 ?side6 ?side7 ?side8 A20.out).mono ?_); (case side1 => repeat (first | exact (Kd.C_below HR0_3.out HB.out) | (with_reducible refine Kd.C_alloc ?_ _) | (with_reducible refine Kd.C_drewN ?_ _) | (with_reducible refine Kd.C_drew ?_))); (case side2 => exact HC0_3.out); (case side3 => repeat (first | exact (Kd.C_below HR0_4.out HB.out) | (with_reducible refine Kd.C_alloc ?_ _) | (with_reducible refine Kd.C_drewN ?_ _) | (with_reducible refine Kd.C_drew ?_))); (case side4 => exact HC0_4.out); (case side5 => repeat (first | exact (Kd.C_below HR0_6.out HB.out) | (with_reducible refine Kd.C_alloc ?_ _) | (with_reducible refine Kd.C_drewN ?_ _) | (with_reducible refine Kd.C_drew ?_))); (case side6 => exact HC0_6.out); (case side7 => repeat (first | exact (Kd.C_below HR0_9.out HB.out) | (with_reducible refine Kd.C_alloc ?_ _) | (with_reducible refine Kd.C_drewN ?_ _) | (with_reducible refine Kd.C_drew ?_))); (case side8 => exact HC0_9.out); rintro e w29 ⟨rfl, hb⟩; refine ⟨_, rfl, ?_⟩; have n0_ := iC.mk (jX (g := gb135) (o := .cells #[.int .u8 a0_0, .int .u32 a0_1, .int .u32 a0_2, .slice A0_3 l0_3.length c0_3, .slice A0_4 l0_4.length c0_4, .int .u32 a0_5, .slice A0_6 l0_6.length c0_6, .int .i64 a0_7, .int .i64 a0_8, .slice A0_9 l0_9.length c0_9] 30 (0, 0)) (bk_ BK135.out) hb); have n1_ := iC.mk (iI (by repeat (first | (with_reducible first | exact HB.out | apply iF | apply iG | apply iJ | refine iM ?_ GE135.out) | exact HB.out)) hb); clear BK135; clear HB; have BK135 := n0_; have HB := n1_; clear n0_ n1_; (try clear hb); (try clear hb2); (try clear hk); (try clear hi)))
        go_ret
        exact ⟨by first | rfl | (simp [iT, iU] <;> rfl) | (simp [*, iT, iU] <;> rfl), by repeat (first | (with_reducible first | exact HB.out | apply iF | apply iG | apply iJ | refine iM ?_ GE135.out) | exact HB.out)⟩
    · rw [if_neg c19] at H
      have c19b0 : (a0_0 == 2) = false := beq_eq_false_iff_ne.mpr c19
      have c19b1 : (a0_0 != 2) = true := bne_iff_ne.mpr c19
      have HC30 := iC.mk H
      clear H
      go_enter Tryd.func20, Tryd.ntmps20
      go_upto_if 28 with (first | ((with_reducible refine jY (N := 1) rfl ?_); refine jV ?hg (N := 1) ?hd (cs := #[.int .u8 a0_0, .int .u32 a0_1, .int .u32 a0_2, .slice A0_3 l0_3.length c0_3, .slice A0_4 l0_4.length c0_4, .int .u32 a0_5, .slice A0_6 l0_6.length c0_6, .int .i64 a0_7, .int .i64 a0_8, .slice A0_9 l0_9.length c0_9]) (t := 30) ?hr ?_; (case hd => rfl); (case hg => rfl); (case hr => first | (go_simp; done) | (go_simp; rfl)); intro gb135 hg w31 hbox hb; have n0_ := iC.mk (iI hb_ hb); have n1_ := iC.mk (hbox); have n2_ := iC.mk ((by rw [hg]; exact (iW hb_) : w.heap.size ≤ gb135)); have n3_ := iC.mk ((by rw [hg]; exact (iW hb_) : w.heap.size ≤ gb135)); clear HB; have HB := n0_; have BK135 := n1_; have GW135 := n2_; have GE135 := n3_; clear n0_ n1_ n2_ n3_; clear hb hbox hg; have hcz32_0 : w31.cell? ⟨gb135, 0, none⟩ = some (.int .u8 a0_0) := (iE BK135.out 0).trans rfl; have hcz32_1 : w31.cell? ⟨gb135, 1, none⟩ = some (.int .u32 a0_1) := (iE BK135.out 1).trans rfl; have hcz32_2 : w31.cell? ⟨gb135, 2, none⟩ = some (.int .u32 a0_2) := (iE BK135.out 2).trans rfl; have hcz32_3 : w31.cell? ⟨gb135, 3, none⟩ = some (.slice A0_3 l0_3.length c0_3) := (iE BK135.out 3).trans rfl; have hcz32_4 : w31.cell? ⟨gb135, 4, none⟩ = some (.slice A0_4 l0_4.length c0_4) := (iE BK135.out 4).trans rfl; have hcz32_5 : w31.cell? ⟨gb135, 5, none⟩ = some (.int .u32 a0_5) := (iE BK135.out 5).trans rfl; have hcz32_6 : w31.cell? ⟨gb135, 6, none⟩ = some (.slice A0_6 l0_6.length c0_6) := (iE BK135.out 6).trans rfl; have hcz32_7 : w31.cell? ⟨gb135, 7, none⟩ = some (.int .i64 a0_7) := (iE BK135.out 7).trans rfl; have hcz32_8 : w31.cell? ⟨gb135, 8, none⟩ = some (.int .i64 a0_8) := (iE BK135.out 8).trans rfl; have hcz32_9 : w31.cell? ⟨gb135, 9, none⟩ = some (.slice A0_9 l0_9.length c0_9) := (iE BK135.out 9).trans rfl; have hfz32_0 := iD BK135.out 0; have hfz32_1 := iD BK135.out 1; have hfz32_2 := iD BK135.out 2; have hfz32_3 := iD BK135.out 3; have hfz32_4 := iD BK135.out 4; have hfz32_5 := iD BK135.out 5; have hfz32_6 := iD BK135.out 6; have hfz32_7 := iD BK135.out 7; have hfz32_8 := iD BK135.out 8; have hfz32_9 := iD BK135.out 9))
      (try simp only [Act.put, List.setIfInBounds_toArray, List.set_cons_zero, List.set_cons_succ])
      go_cut [28] (fun v28 wc => ∃ (kq : Nat) (x28_29 : Bool), v28 = .bool x28_29 ∧ iC (stratumref07_Sound.j0 kq a0_0 x28_29 a0_0 a0_1 a0_2 l0_3 l0_4 a0_5 l0_6 a0_7 a0_8 l0_9 = some r) ∧ iC (kq ≤ k) ∧ iC (wc.heap[gb135]? = some (.cells #[.int .u8 a0_0, .int .u32 a0_1, .int .u32 a0_2, (.slice A0_3 l0_3.length c0_3), (.slice A0_4 l0_4.length c0_4), .int .u32 a0_5, (.slice A0_6 l0_6.length c0_6), .int .i64 a0_7, .int .i64 a0_8, (.slice A0_9 l0_9.length c0_9)] 30 (0, 0))) ∧ iC (Below w.heap.size w wc))
      case first =>
        have H := HC30.out
        clear HC30
        by_cases c33 : a0_0 = 3
        · rw [if_pos c33] at H
          have c33b0 : (a0_0 == 3) = true := beq_iff_eq.mpr c33
          have c33b1 : (a0_0 != 3) = false := bne_eq_false_iff_eq.mpr c33
          clear c33
          (first | rw [c33b0] | (simp only [iY, jD]; rw [c33b0]) | skip)
          have H' := iC.mk H
          clear H
          go_wp2
          go_meet
          case rel => exact ⟨_, ((a0_0 == 3)), (by first | rfl | (simp; done) | (simp [*]; done)), H', ⟨by first | omega | exact Nat.le_refl _⟩, ⟨bk_ BK135.out⟩, ⟨by repeat (first | (with_reducible first | exact HB.out | apply iF | apply iG | apply iJ | refine iM ?_ GE135.out) | exact HB.out)⟩⟩
        · rw [if_neg c33] at H
          have c33b0 : (a0_0 == 3) = false := beq_eq_false_iff_ne.mpr c33
          have c33b1 : (a0_0 != 3) = true := bne_iff_ne.mpr c33
          (first | rw [c33b0] | (simp only [iY, jD]; rw [c33b0]) | skip)
          by_cases c34 : a0_0 = 4
          · rw [if_pos c34] at H
            have c34b0 : (a0_0 == 4) = true := beq_iff_eq.mpr c34
            have c34b1 : (a0_0 != 4) = false := bne_eq_false_iff_eq.mpr c34
            clear c34
            have H' := iC.mk H
            clear H
            go_wp2
            go_meet
            case rel => exact ⟨_, ((a0_0 == 4)), (by first | rfl | (simp; done) | (simp [*]; done)), H', ⟨by first | omega | exact Nat.le_refl _⟩, ⟨bk_ BK135.out⟩, ⟨by repeat (first | (with_reducible first | exact HB.out | apply iF | apply iG | apply iJ | refine iM ?_ GE135.out) | exact HB.out)⟩⟩
          · rw [if_neg c34] at H
            have c34b0 : (a0_0 == 4) = false := beq_eq_false_iff_ne.mpr c34
            have c34b1 : (a0_0 != 4) = true := bne_iff_ne.mpr c34
            have H' := iC.mk H
            clear H
            go_wp2
            go_meet
            case rel => exact ⟨_, ((a0_0 == 5)), (by first | rfl | (simp; done) | (simp [*]; done)), H', ⟨by first | omega | exact Nat.le_refl _⟩, ⟨bk_ BK135.out⟩, ⟨by repeat (first | (with_reducible first | exact HB.out | apply iF | apply iG | apply iJ | refine iM ?_ GE135.out) | exact HB.out)⟩⟩
      case rest =>
        clear HC30
        try clear c1
        try clear c2
        try clear c2b0
        try clear c2b1
        try clear p2
        try clear c3
        try clear c4
        try clear c6
        try clear c19
        try clear c19b0
        try clear c19b1
        try clear c20
        try clear c21
        try clear c33
        try clear c33b0
        try clear c33b1
        try clear c34
        try clear c34b0
        try clear c34b1
        try clear hcz11_0
        try clear hcz11_1
        try clear hcz11_2
        try clear hcz11_3
        try clear hcz11_4
        try clear hcz11_5
        try clear hcz11_6
        try clear hcz11_7
        try clear hcz11_8
        try clear hcz11_9
        try clear hcz13_0
        try clear hcz13_1
        try clear hcz13_2
        try clear hcz13_3
        try clear hcz13_4
        try clear hcz13_5
        try clear hcz13_6
        try clear hcz13_7
        try clear hcz13_8
        try clear hcz13_9
        try clear hcz15_0
        try clear hcz15_1
        try clear hcz15_2
        try clear hcz15_3
        try clear hcz15_4
        try clear hcz15_5
        try clear hcz15_6
        try clear hcz15_7
        try clear hcz15_8
        try clear hcz15_9
        try clear hcz17_0
        try clear hcz17_1
        try clear hcz17_2
        try clear hcz17_3
        try clear hcz17_4
        try clear hcz17_5
        try clear hcz17_6
        try clear hcz17_7
        try clear hcz17_8
        try clear hcz17_9
        try clear hcz24_0
        try clear hcz24_1
        try clear hcz24_2
        try clear hcz24_3
        try clear hcz24_4
        try clear hcz24_5
        try clear hcz24_6
        try clear hcz24_7
        try clear hcz24_8
        try clear hcz24_9
        try clear hcz26_0
        try clear hcz26_1
        try clear hcz26_2
        try clear hcz26_3
        try clear hcz26_4
        try clear hcz26_5
        try clear hcz26_6
        try clear hcz26_7
        try clear hcz26_8
        try clear hcz26_9
        try clear hcz28_0
        try clear hcz28_1
        try clear hcz28_2
        try clear hcz28_3
        try clear hcz28_4
        try clear hcz28_5
        try clear hcz28_6
        try clear hcz28_7
        try clear hcz28_8
        try clear hcz28_9
        try clear hcz32_0
        try clear hcz32_1
        try clear hcz32_2
        try clear hcz32_3
        try clear hcz32_4
        try clear hcz32_5
        try clear hcz32_6
        try clear hcz32_7
        try clear hcz32_8
        try clear hcz32_9
        try clear hcz9_0
        try clear hcz9_1
        try clear hcz9_2
        try clear hcz9_3
        try clear hcz9_4
        try clear hcz9_5
        try clear hcz9_6
        try clear hcz9_7
        try clear hcz9_8
        try clear hcz9_9
        try clear hfz11_0
        try clear hfz11_1
        try clear hfz11_2
        try clear hfz11_3
        try clear hfz11_4
        try clear hfz11_5
        try clear hfz11_6
        try clear hfz11_7
        try clear hfz11_8
        try clear hfz11_9
        try clear hfz13_0
        try clear hfz13_1
        try clear hfz13_2
        try clear hfz13_3
        try clear hfz13_4
        try clear hfz13_5
        try clear hfz13_6
        try clear hfz13_7
        try clear hfz13_8
        try clear hfz13_9
        try clear hfz15_0
        try clear hfz15_1
        try clear hfz15_2
        try clear hfz15_3
        try clear hfz15_4
        try clear hfz15_5
        try clear hfz15_6
        try clear hfz15_7
        try clear hfz15_8
        try clear hfz15_9
        try clear hfz17_0
        try clear hfz17_1
        try clear hfz17_2
        try clear hfz17_3
        try clear hfz17_4
        try clear hfz17_5
        try clear hfz17_6
        try clear hfz17_7
        try clear hfz17_8
        try clear hfz17_9
        try clear hfz24_0
        try clear hfz24_1
        try clear hfz24_2
        try clear hfz24_3
        try clear hfz24_4
        try clear hfz24_5
        try clear hfz24_6
        try clear hfz24_7
        try clear hfz24_8
        try clear hfz24_9
        try clear hfz26_0
        try clear hfz26_1
        try clear hfz26_2
        try clear hfz26_3
        try clear hfz26_4
        try clear hfz26_5
        try clear hfz26_6
        try clear hfz26_7
        try clear hfz26_8
        try clear hfz26_9
        try clear hfz28_0
        try clear hfz28_1
        try clear hfz28_2
        try clear hfz28_3
        try clear hfz28_4
        try clear hfz28_5
        try clear hfz28_6
        try clear hfz28_7
        try clear hfz28_8
        try clear hfz28_9
        try clear hfz32_0
        try clear hfz32_1
        try clear hfz32_2
        try clear hfz32_3
        try clear hfz32_4
        try clear hfz32_5
        try clear hfz32_6
        try clear hfz32_7
        try clear hfz32_8
        try clear hfz32_9
        try clear hfz9_0
        try clear hfz9_1
        try clear hfz9_2
        try clear hfz9_3
        try clear hfz9_4
        try clear hfz9_5
        try clear hfz9_6
        try clear hfz9_7
        try clear hfz9_8
        try clear hfz9_9
        obtain ⟨kq, x28_29, rfl, HA, HJ29, BK135, HB⟩ := hcut
        cases kq with
        | zero => exact absurd HA.out (by simp [stratumref07_Sound.j0])
        | succ kj29 =>
          have H := HA.out
          clear HA
          simp only [stratumref07_Sound.j0] at H
          by_cases c35 : x28_29 = true
          · subst c35
            have H1 : ((stratumref07_bare.f a0_0 a0_1 a0_2 l0_3 l0_4 a0_5 l0_6 a0_7 a0_8 l0_9 (⟨#[73]⟩ : ByteArray)).bind fun t141 => (some t141)) = some r := by rw [if_pos rfl] at H; exact H
            clear H
            have H := H1
            clear H1
            replace H := Option.bind_eq_some_iff.mp H
            obtain ⟨t141, A360, H⟩ := H
            replace H : (some t141) = some r := H
            have A36 := iC.mk A360
            clear A360
            obtain rfl := Option.some.inj H
            have hcz37_0 : wc.cell? ⟨gb135, 0, none⟩ = some (.int .u8 a0_0) := (iE BK135.out 0).trans rfl
            have hcz37_1 : wc.cell? ⟨gb135, 1, none⟩ = some (.int .u32 a0_1) := (iE BK135.out 1).trans rfl
            have hcz37_2 : wc.cell? ⟨gb135, 2, none⟩ = some (.int .u32 a0_2) := (iE BK135.out 2).trans rfl
            have hcz37_3 : wc.cell? ⟨gb135, 3, none⟩ = some (.slice A0_3 l0_3.length c0_3) := (iE BK135.out 3).trans rfl
            have hcz37_4 : wc.cell? ⟨gb135, 4, none⟩ = some (.slice A0_4 l0_4.length c0_4) := (iE BK135.out 4).trans rfl
            have hcz37_5 : wc.cell? ⟨gb135, 5, none⟩ = some (.int .u32 a0_5) := (iE BK135.out 5).trans rfl
            have hcz37_6 : wc.cell? ⟨gb135, 6, none⟩ = some (.slice A0_6 l0_6.length c0_6) := (iE BK135.out 6).trans rfl
            have hcz37_7 : wc.cell? ⟨gb135, 7, none⟩ = some (.int .i64 a0_7) := (iE BK135.out 7).trans rfl
            have hcz37_8 : wc.cell? ⟨gb135, 8, none⟩ = some (.int .i64 a0_8) := (iE BK135.out 8).trans rfl
            have hcz37_9 : wc.cell? ⟨gb135, 9, none⟩ = some (.slice A0_9 l0_9.length c0_9) := (iE BK135.out 9).trans rfl
            have hfz37_0 := iD BK135.out 0
            have hfz37_1 := iD BK135.out 1
            have hfz37_2 := iD BK135.out 2
            have hfz37_3 := iD BK135.out 3
            have hfz37_4 := iD BK135.out 4
            have hfz37_5 := iD BK135.out 5
            have hfz37_6 := iD BK135.out 6
            have hfz37_7 := iD BK135.out 7
            have hfz37_8 := iD BK135.out 8
            have hfz37_9 := iD BK135.out 9
            go_wp2_with (first | ((with_reducible refine jS (f := 68) rfl ?_); refine lV (some 33) rfl rfl Tryd.func68 (by kernel_rfl) rfl #[.agg #[.int .u8 a0_0, .int .u32 a0_1, .int .u32 a0_2, .slice A0_3 l0_3.length c0_3, .slice A0_4 l0_4.length c0_4, .int .u32 a0_5, .slice A0_6 l0_6.length c0_6, .int .i64 a0_7, .int .i64 a0_8, .slice A0_9 l0_9.length c0_9], .string (⟨#[73]⟩ : ByteArray)] rfl (by (try simp only [List.map_toArray, List.map_cons, List.map_nil]); first | done | rfl | (simp only [List.length_drop, List.length_take]; rfl)) ?_; (with_reducible refine (stratumref07_bare.calls a0_0 a0_1 a0_2 _ _ l0_3 _ _ l0_4 a0_5 _ _ l0_6 a0_7 a0_8 _ _ l0_9 (⟨#[73]⟩ : ByteArray) t141 _ ?side1 ?side2 ?side3 ?side4 ?side5 ?side6 ?side7 ?side8 A36.out).mono ?_); (case side1 => repeat (first | exact (Kd.C_below HR0_3.out HB.out) | (with_reducible refine Kd.C_alloc ?_ _) | (with_reducible refine Kd.C_drewN ?_ _) | (with_reducible refine Kd.C_drew ?_))); (case side2 => exact HC0_3.out); (case side3 => repeat (first | exact (Kd.C_below HR0_4.out HB.out) | (with_reducible refine Kd.C_alloc ?_ _) | (with_reducible refine Kd.C_drewN ?_ _) | (with_reducible refine Kd.C_drew ?_))); (case side4 => exact HC0_4.out); (case side5 => repeat (first | exact (Kd.C_below HR0_6.out HB.out) | (with_reducible refine Kd.C_alloc ?_ _) | (with_reducible refine Kd.C_drewN ?_ _) | (with_reducible refine Kd.C_drew ?_))); (case side6 => exact HC0_6.out); (case side7 => repeat (first | exact (Kd.C_below HR0_9.out HB.out) | (with_reducible refine Kd.C_alloc ?_ _) | (with_reducible refine Kd.C_drewN ?_ _) | (with_reducible refine Kd.C_drew ?_))); (case side8 => exact HC0_9.out); rintro e w38 ⟨rfl, hb⟩; refine ⟨_, rfl, ?_⟩; have n0_ := iC.mk (jX (g := gb135) (o := .cells #[.int .u8 a0_0, .int .u32 a0_1, .int .u32 a0_2, .slice A0_3 l0_3.length c0_3, .slice A0_4 l0_4.length c0_4, .int .u32 a0_5, .slice A0_6 l0_6.length c0_6, .int .i64 a0_7, .int .i64 a0_8, .slice A0_9 l0_9.length c0_9] 30 (0, 0)) (bk_ BK135.out) hb); have n1_ := iC.mk (iI (by repeat (first | (with_reducible first | exact HB.out | apply iF | apply iG | apply iJ | refine iM ?_ GE135.out) | exact HB.out)) hb); clear BK135; clear HB; have BK135 := n0_; have HB := n1_; clear n0_ n1_; (try clear hb); (try clear hb2); (try clear hk); (try clear hi)))
            go_ret
            exact ⟨by first | rfl | (simp [iT, iU] <;> rfl) | (simp [*, iT, iU] <;> rfl), by repeat (first | (with_reducible first | exact HB.out | apply iF | apply iG | apply iJ | refine iM ?_ GE135.out) | exact HB.out)⟩
          · replace c35 := Bool.eq_false_iff.mpr c35
            subst c35
            have H1 : (if a0_0 = 6 then ((stratumref07_bare.f a0_0 a0_1 a0_2 l0_3 l0_4 a0_5 l0_6 a0_7 a0_8 l0_9 (⟨#[77]⟩ : ByteArray)).bind fun t142 => (if t142 = true then ((stratumref07_spans.f kj29 l0_6).bind fun t143 => (some t143)) else (some false))) else (if a0_0 = 7 then ((stratumref07_bare.f a0_0 a0_1 a0_2 l0_3 l0_4 a0_5 l0_6 a0_7 a0_8 l0_9 (⟨#[73, 82]⟩ : ByteArray)).bind fun t144 => (if t144 = true then ((stratumref07_SoundEntries.f kj29 l0_9).bind fun t145 => (if t145 = true then (if a0_7 ≥ 0 then (if a0_7 ≤ 10000 then (if a0_8 ≥ 0 then (some (decide (a0_8 ≤ 10000))) else (some false)) else (some false)) else (some false)) else (some false))) else (some false))) else (some false))) = some r := by rw [if_neg (show ¬ (false = true) by decide)] at H; exact H
            clear H
            have H := H1
            clear H1
            by_cases c39 : a0_0 = 6
            · rw [if_pos c39] at H
              have c39b0 : (a0_0 == 6) = true := beq_iff_eq.mpr c39
              have c39b1 : (a0_0 != 6) = false := bne_eq_false_iff_eq.mpr c39
              clear c39
              replace H := Option.bind_eq_some_iff.mp H
              obtain ⟨t142, A400, H⟩ := H
              replace H : (if t142 = true then ((stratumref07_spans.f kj29 l0_6).bind fun t143 => (some t143)) else (some false)) = some r := H
              have A40 := iC.mk A400
              clear A400
              by_cases c41 : t142 = true
              · subst c41
                have H1 : ((stratumref07_spans.f kj29 l0_6).bind fun t143 => (some t143)) = some r := by rw [if_pos rfl] at H; exact H
                clear H
                have H := H1
                clear H1
                replace H := Option.bind_eq_some_iff.mp H
                obtain ⟨t143, A420, H⟩ := H
                replace H : (some t143) = some r := H
                have A42 := iC.mk A420
                clear A420
                obtain rfl := Option.some.inj H
                have hcz43_0 : wc.cell? ⟨gb135, 0, none⟩ = some (.int .u8 a0_0) := (iE BK135.out 0).trans rfl
                have hcz43_1 : wc.cell? ⟨gb135, 1, none⟩ = some (.int .u32 a0_1) := (iE BK135.out 1).trans rfl
                have hcz43_2 : wc.cell? ⟨gb135, 2, none⟩ = some (.int .u32 a0_2) := (iE BK135.out 2).trans rfl
                have hcz43_3 : wc.cell? ⟨gb135, 3, none⟩ = some (.slice A0_3 l0_3.length c0_3) := (iE BK135.out 3).trans rfl
                have hcz43_4 : wc.cell? ⟨gb135, 4, none⟩ = some (.slice A0_4 l0_4.length c0_4) := (iE BK135.out 4).trans rfl
                have hcz43_5 : wc.cell? ⟨gb135, 5, none⟩ = some (.int .u32 a0_5) := (iE BK135.out 5).trans rfl
                have hcz43_6 : wc.cell? ⟨gb135, 6, none⟩ = some (.slice A0_6 l0_6.length c0_6) := (iE BK135.out 6).trans rfl
                have hcz43_7 : wc.cell? ⟨gb135, 7, none⟩ = some (.int .i64 a0_7) := (iE BK135.out 7).trans rfl
                have hcz43_8 : wc.cell? ⟨gb135, 8, none⟩ = some (.int .i64 a0_8) := (iE BK135.out 8).trans rfl
                have hcz43_9 : wc.cell? ⟨gb135, 9, none⟩ = some (.slice A0_9 l0_9.length c0_9) := (iE BK135.out 9).trans rfl
                have hfz43_0 := iD BK135.out 0
                have hfz43_1 := iD BK135.out 1
                have hfz43_2 := iD BK135.out 2
                have hfz43_3 := iD BK135.out 3
                have hfz43_4 := iD BK135.out 4
                have hfz43_5 := iD BK135.out 5
                have hfz43_6 := iD BK135.out 6
                have hfz43_7 := iD BK135.out 7
                have hfz43_8 := iD BK135.out 8
                have hfz43_9 := iD BK135.out 9
                go_wp2_with (first | ((with_reducible refine jS (f := 68) rfl ?_); refine lV (some 37) rfl rfl Tryd.func68 (by kernel_rfl) rfl #[.agg #[.int .u8 a0_0, .int .u32 a0_1, .int .u32 a0_2, .slice A0_3 l0_3.length c0_3, .slice A0_4 l0_4.length c0_4, .int .u32 a0_5, .slice A0_6 l0_6.length c0_6, .int .i64 a0_7, .int .i64 a0_8, .slice A0_9 l0_9.length c0_9], .string (⟨#[77]⟩ : ByteArray)] rfl (by (try simp only [List.map_toArray, List.map_cons, List.map_nil]); first | done | rfl | (simp only [List.length_drop, List.length_take]; rfl)) ?_; (with_reducible refine (stratumref07_bare.calls a0_0 a0_1 a0_2 _ _ l0_3 _ _ l0_4 a0_5 _ _ l0_6 a0_7 a0_8 _ _ l0_9 (⟨#[77]⟩ : ByteArray) true _ ?side1 ?side2 ?side3 ?side4 ?side5 ?side6 ?side7 ?side8 A40.out).mono ?_); (case side1 => repeat (first | exact (Kd.C_below HR0_3.out HB.out) | (with_reducible refine Kd.C_alloc ?_ _) | (with_reducible refine Kd.C_drewN ?_ _) | (with_reducible refine Kd.C_drew ?_))); (case side2 => exact HC0_3.out); (case side3 => repeat (first | exact (Kd.C_below HR0_4.out HB.out) | (with_reducible refine Kd.C_alloc ?_ _) | (with_reducible refine Kd.C_drewN ?_ _) | (with_reducible refine Kd.C_drew ?_))); (case side4 => exact HC0_4.out); (case side5 => repeat (first | exact (Kd.C_below HR0_6.out HB.out) | (with_reducible refine Kd.C_alloc ?_ _) | (with_reducible refine Kd.C_drewN ?_ _) | (with_reducible refine Kd.C_drew ?_))); (case side6 => exact HC0_6.out); (case side7 => repeat (first | exact (Kd.C_below HR0_9.out HB.out) | (with_reducible refine Kd.C_alloc ?_ _) | (with_reducible refine Kd.C_drewN ?_ _) | (with_reducible refine Kd.C_drew ?_))); (case side8 => exact HC0_9.out); rintro e w44 ⟨rfl, hb⟩; refine ⟨_, rfl, ?_⟩; have n0_ := iC.mk (jX (g := gb135) (o := .cells #[.int .u8 a0_0, .int .u32 a0_1, .int .u32 a0_2, .slice A0_3 l0_3.length c0_3, .slice A0_4 l0_4.length c0_4, .int .u32 a0_5, .slice A0_6 l0_6.length c0_6, .int .i64 a0_7, .int .i64 a0_8, .slice A0_9 l0_9.length c0_9] 30 (0, 0)) (bk_ BK135.out) hb); have n1_ := iC.mk (iI (by repeat (first | (with_reducible first | exact HB.out | apply iF | apply iG | apply iJ | refine iM ?_ GE135.out) | exact HB.out)) hb); clear BK135; clear HB; have BK135 := n0_; have HB := n1_; clear n0_ n1_; (try clear hb); (try clear hb2); (try clear hk); (try clear hi); have hcz45_0 : w44.cell? ⟨gb135, 0, none⟩ = some (.int .u8 a0_0) := (iE BK135.out 0).trans rfl; have hcz45_1 : w44.cell? ⟨gb135, 1, none⟩ = some (.int .u32 a0_1) := (iE BK135.out 1).trans rfl; have hcz45_2 : w44.cell? ⟨gb135, 2, none⟩ = some (.int .u32 a0_2) := (iE BK135.out 2).trans rfl; have hcz45_3 : w44.cell? ⟨gb135, 3, none⟩ = some (.slice A0_3 l0_3.length c0_3) := (iE BK135.out 3).trans rfl; have hcz45_4 : w44.cell? ⟨gb135, 4, none⟩ = some (.slice A0_4 l0_4.length c0_4) := (iE BK135.out 4).trans rfl; have hcz45_5 : w44.cell? ⟨gb135, 5, none⟩ = some (.int .u32 a0_5) := (iE BK135.out 5).trans rfl; have hcz45_6 : w44.cell? ⟨gb135, 6, none⟩ = some (.slice A0_6 l0_6.length c0_6) := (iE BK135.out 6).trans rfl; have hcz45_7 : w44.cell? ⟨gb135, 7, none⟩ = some (.int .i64 a0_7) := (iE BK135.out 7).trans rfl; have hcz45_8 : w44.cell? ⟨gb135, 8, none⟩ = some (.int .i64 a0_8) := (iE BK135.out 8).trans rfl; have hcz45_9 : w44.cell? ⟨gb135, 9, none⟩ = some (.slice A0_9 l0_9.length c0_9) := (iE BK135.out 9).trans rfl; have hfz45_0 := iD BK135.out 0; have hfz45_1 := iD BK135.out 1; have hfz45_2 := iD BK135.out 2; have hfz45_3 := iD BK135.out 3; have hfz45_4 := iD BK135.out 4; have hfz45_5 := iD BK135.out 5; have hfz45_6 := iD BK135.out 6; have hfz45_7 := iD BK135.out 7; have hfz45_8 := iD BK135.out 8; have hfz45_9 := iD BK135.out 9) | (go_at_call 71; (with_reducible refine (stratumref07_spans.calls kj29 _ _ l0_6 t143 _ ?side1 ?side2 A42.out).mono ?_); (case side1 => repeat (first | exact (Kd.C_below HR0_6.out HB.out) | (with_reducible refine Kd.C_alloc ?_ _) | (with_reducible refine Kd.C_drewN ?_ _) | (with_reducible refine Kd.C_drew ?_))); (case side2 => exact HC0_6.out); rintro e w' ⟨rfl, ⟨nd, rfl⟩⟩))
                go_ret
                exact ⟨by first | rfl | (simp [iT, iU] <;> rfl) | (simp [*, iT, iU] <;> rfl), by repeat (first | (with_reducible first | exact HB.out | apply iF | apply iG | apply iJ | refine iM ?_ GE135.out) | exact HB.out)⟩
              · replace c41 := Bool.eq_false_iff.mpr c41
                subst c41
                have H1 : (some false) = some r := by rw [if_neg (show ¬ (false = true) by decide)] at H; exact H
                clear H
                have H := H1
                clear H1
                obtain rfl := Option.some.inj H
                have hcz46_0 : wc.cell? ⟨gb135, 0, none⟩ = some (.int .u8 a0_0) := (iE BK135.out 0).trans rfl
                have hcz46_1 : wc.cell? ⟨gb135, 1, none⟩ = some (.int .u32 a0_1) := (iE BK135.out 1).trans rfl
                have hcz46_2 : wc.cell? ⟨gb135, 2, none⟩ = some (.int .u32 a0_2) := (iE BK135.out 2).trans rfl
                have hcz46_3 : wc.cell? ⟨gb135, 3, none⟩ = some (.slice A0_3 l0_3.length c0_3) := (iE BK135.out 3).trans rfl
                have hcz46_4 : wc.cell? ⟨gb135, 4, none⟩ = some (.slice A0_4 l0_4.length c0_4) := (iE BK135.out 4).trans rfl
                have hcz46_5 : wc.cell? ⟨gb135, 5, none⟩ = some (.int .u32 a0_5) := (iE BK135.out 5).trans rfl
                have hcz46_6 : wc.cell? ⟨gb135, 6, none⟩ = some (.slice A0_6 l0_6.length c0_6) := (iE BK135.out 6).trans rfl
                have hcz46_7 : wc.cell? ⟨gb135, 7, none⟩ = some (.int .i64 a0_7) := (iE BK135.out 7).trans rfl
                have hcz46_8 : wc.cell? ⟨gb135, 8, none⟩ = some (.int .i64 a0_8) := (iE BK135.out 8).trans rfl
                have hcz46_9 : wc.cell? ⟨gb135, 9, none⟩ = some (.slice A0_9 l0_9.length c0_9) := (iE BK135.out 9).trans rfl
                have hfz46_0 := iD BK135.out 0
                have hfz46_1 := iD BK135.out 1
                have hfz46_2 := iD BK135.out 2
                have hfz46_3 := iD BK135.out 3
                have hfz46_4 := iD BK135.out 4
                have hfz46_5 := iD BK135.out 5
                have hfz46_6 := iD BK135.out 6
                have hfz46_7 := iD BK135.out 7
                have hfz46_8 := iD BK135.out 8
                have hfz46_9 := iD BK135.out 9
                go_wp2_with (first | ((with_reducible refine jS (f := 68) rfl ?_); refine lV (some 37) rfl rfl Tryd.func68 (by kernel_rfl) rfl #[.agg #[.int .u8 a0_0, .int .u32 a0_1, .int .u32 a0_2, .slice A0_3 l0_3.length c0_3, .slice A0_4 l0_4.length c0_4, .int .u32 a0_5, .slice A0_6 l0_6.length c0_6, .int .i64 a0_7, .int .i64 a0_8, .slice A0_9 l0_9.length c0_9], .string (⟨#[77]⟩ : ByteArray)] rfl (by (try simp only [List.map_toArray, List.map_cons, List.map_nil]); first | done | rfl | (simp only [List.length_drop, List.length_take]; rfl)) ?_; (with_reducible refine (stratumref07_bare.calls a0_0 a0_1 a0_2 _ _ l0_3 _ _ l0_4 a0_5 _ _ l0_6 a0_7 a0_8 _ _ l0_9 (⟨#[77]⟩ : ByteArray) false _ ?side1 ?side2 ?side3 ?side4 ?side5 ?side6 ?side7 ?side8 A40.out).mono ?_); (case side1 => repeat (first | exact (Kd.C_below HR0_3.out HB.out) | (with_reducible refine Kd.C_alloc ?_ _) | (with_reducible refine Kd.C_drewN ?_ _) | (with_reducible refine Kd.C_drew ?_))); (case side2 => exact HC0_3.out); (case side3 => repeat (first | exact (Kd.C_below HR0_4.out HB.out) | (with_reducible refine Kd.C_alloc ?_ _) | (with_reducible refine Kd.C_drewN ?_ _) | (with_reducible refine Kd.C_drew ?_))); (case side4 => exact HC0_4.out); (case side5 => repeat (first | exact (Kd.C_below HR0_6.out HB.out) | (with_reducible refine Kd.C_alloc ?_ _) | (with_reducible refine Kd.C_drewN ?_ _) | (with_reducible refine Kd.C_drew ?_))); (case side6 => exact HC0_6.out); (case side7 => repeat (first | exact (Kd.C_below HR0_9.out HB.out) | (with_reducible refine Kd.C_alloc ?_ _) | (with_reducible refine Kd.C_drewN ?_ _) | (with_reducible refine Kd.C_drew ?_))); (case side8 => exact HC0_9.out); rintro e w47 ⟨rfl, hb⟩; refine ⟨_, rfl, ?_⟩; have n0_ := iC.mk (jX (g := gb135) (o := .cells #[.int .u8 a0_0, .int .u32 a0_1, .int .u32 a0_2, .slice A0_3 l0_3.length c0_3, .slice A0_4 l0_4.length c0_4, .int .u32 a0_5, .slice A0_6 l0_6.length c0_6, .int .i64 a0_7, .int .i64 a0_8, .slice A0_9 l0_9.length c0_9] 30 (0, 0)) (bk_ BK135.out) hb); have n1_ := iC.mk (iI (by repeat (first | (with_reducible first | exact HB.out | apply iF | apply iG | apply iJ | refine iM ?_ GE135.out) | exact HB.out)) hb); clear BK135; clear HB; have BK135 := n0_; have HB := n1_; clear n0_ n1_; (try clear hb); (try clear hb2); (try clear hk); (try clear hi)))
                go_ret
                exact ⟨by first | rfl | (simp [iT, iU] <;> rfl) | (simp [*, iT, iU] <;> rfl), by repeat (first | (with_reducible first | exact HB.out | apply iF | apply iG | apply iJ | refine iM ?_ GE135.out) | exact HB.out)⟩
            · rw [if_neg c39] at H
              have c39b0 : (a0_0 == 6) = false := beq_eq_false_iff_ne.mpr c39
              have c39b1 : (a0_0 != 6) = true := bne_iff_ne.mpr c39
              by_cases c48 : a0_0 = 7
              · rw [if_pos c48] at H
                have c48b0 : (a0_0 == 7) = true := beq_iff_eq.mpr c48
                have c48b1 : (a0_0 != 7) = false := bne_eq_false_iff_eq.mpr c48
                clear c48
                replace H := Option.bind_eq_some_iff.mp H
                obtain ⟨t144, A490, H⟩ := H
                replace H : (if t144 = true then ((stratumref07_SoundEntries.f kj29 l0_9).bind fun t145 => (if t145 = true then (if a0_7 ≥ 0 then (if a0_7 ≤ 10000 then (if a0_8 ≥ 0 then (some (decide (a0_8 ≤ 10000))) else (some false)) else (some false)) else (some false)) else (some false))) else (some false)) = some r := H
                have A49 := iC.mk A490
                clear A490
                by_cases c50 : t144 = true
                · subst c50
                  have H1 : ((stratumref07_SoundEntries.f kj29 l0_9).bind fun t145 => (if t145 = true then (if a0_7 ≥ 0 then (if a0_7 ≤ 10000 then (if a0_8 ≥ 0 then (some (decide (a0_8 ≤ 10000))) else (some false)) else (some false)) else (some false)) else (some false))) = some r := by rw [if_pos rfl] at H; exact H
                  clear H
                  have H := H1
                  clear H1
                  replace H := Option.bind_eq_some_iff.mp H
                  obtain ⟨t145, A510, H⟩ := H
                  replace H : (if t145 = true then (if a0_7 ≥ 0 then (if a0_7 ≤ 10000 then (if a0_8 ≥ 0 then (some (decide (a0_8 ≤ 10000))) else (some false)) else (some false)) else (some false)) else (some false)) = some r := H
                  have A51 := iC.mk A510
                  clear A510
                  by_cases c52 : t145 = true
                  · subst c52
                    have H1 : (if a0_7 ≥ 0 then (if a0_7 ≤ 10000 then (if a0_8 ≥ 0 then (some (decide (a0_8 ≤ 10000))) else (some false)) else (some false)) else (some false)) = some r := by rw [if_pos rfl] at H; exact H
                    clear H
                    have H := H1
                    clear H1
                    by_cases c53 : a0_7 ≥ 0
                    · rw [if_pos c53] at H
                      have c53b0 : decide (0 ≤ a0_7) = true := decide_eq_true c53
                      clear c53
                      by_cases c54 : a0_7 ≤ 10000
                      · rw [if_pos c54] at H
                        have c54b0 : decide (a0_7 ≤ 10000) = true := decide_eq_true c54
                        clear c54
                        by_cases c55 : a0_8 ≥ 0
                        · rw [if_pos c55] at H
                          have c55b0 : decide (0 ≤ a0_8) = true := decide_eq_true c55
                          clear c55
                          obtain rfl := Option.some.inj H
                          have hcz56_0 : wc.cell? ⟨gb135, 0, none⟩ = some (.int .u8 a0_0) := (iE BK135.out 0).trans rfl
                          have hcz56_1 : wc.cell? ⟨gb135, 1, none⟩ = some (.int .u32 a0_1) := (iE BK135.out 1).trans rfl
                          have hcz56_2 : wc.cell? ⟨gb135, 2, none⟩ = some (.int .u32 a0_2) := (iE BK135.out 2).trans rfl
                          have hcz56_3 : wc.cell? ⟨gb135, 3, none⟩ = some (.slice A0_3 l0_3.length c0_3) := (iE BK135.out 3).trans rfl
                          have hcz56_4 : wc.cell? ⟨gb135, 4, none⟩ = some (.slice A0_4 l0_4.length c0_4) := (iE BK135.out 4).trans rfl
                          have hcz56_5 : wc.cell? ⟨gb135, 5, none⟩ = some (.int .u32 a0_5) := (iE BK135.out 5).trans rfl
                          have hcz56_6 : wc.cell? ⟨gb135, 6, none⟩ = some (.slice A0_6 l0_6.length c0_6) := (iE BK135.out 6).trans rfl
                          have hcz56_7 : wc.cell? ⟨gb135, 7, none⟩ = some (.int .i64 a0_7) := (iE BK135.out 7).trans rfl
                          have hcz56_8 : wc.cell? ⟨gb135, 8, none⟩ = some (.int .i64 a0_8) := (iE BK135.out 8).trans rfl
                          have hcz56_9 : wc.cell? ⟨gb135, 9, none⟩ = some (.slice A0_9 l0_9.length c0_9) := (iE BK135.out 9).trans rfl
                          have hfz56_0 := iD BK135.out 0
                          have hfz56_1 := iD BK135.out 1
                          have hfz56_2 := iD BK135.out 2
                          have hfz56_3 := iD BK135.out 3
                          have hfz56_4 := iD BK135.out 4
                          have hfz56_5 := iD BK135.out 5
                          have hfz56_6 := iD BK135.out 6
                          have hfz56_7 := iD BK135.out 7
                          have hfz56_8 := iD BK135.out 8
                          have hfz56_9 := iD BK135.out 9
                          go_wp2_with (first | ((with_reducible refine jS (f := 68) rfl ?_); refine lV (some 47) rfl rfl Tryd.func68 (by kernel_rfl) rfl #[.agg #[.int .u8 a0_0, .int .u32 a0_1, .int .u32 a0_2, .slice A0_3 l0_3.length c0_3, .slice A0_4 l0_4.length c0_4, .int .u32 a0_5, .slice A0_6 l0_6.length c0_6, .int .i64 a0_7, .int .i64 a0_8, .slice A0_9 l0_9.length c0_9], .string (⟨#[73, 82]⟩ : ByteArray)] rfl (by (try simp only [List.map_toArray, List.map_cons, List.map_nil]); first | done | rfl | (simp only [List.length_drop, List.length_take]; rfl)) ?_; (with_reducible refine (stratumref07_bare.calls a0_0 a0_1 a0_2 _ _ l0_3 _ _ l0_4 a0_5 _ _ l0_6 a0_7 a0_8 _ _ l0_9 (⟨#[73, 82]⟩ : ByteArray) true _ ?side1 ?side2 ?side3 ?side4 ?side5 ?side6 ?side7 ?side8 A49.out).mono ?_); (case side1 => repeat (first | exact (Kd.C_below HR0_3.out HB.out) | (with_reducible refine Kd.C_alloc ?_ _) | (with_reducible refine Kd.C_drewN ?_ _) | (with_reducible refine Kd.C_drew ?_))); (case side2 => exact HC0_3.out); (case side3 => repeat (first | exact (Kd.C_below HR0_4.out HB.out) | (with_reducible refine Kd.C_alloc ?_ _) | (with_reducible refine Kd.C_drewN ?_ _) | (with_reducible refine Kd.C_drew ?_))); (case side4 => exact HC0_4.out); (case side5 => repeat (first | exact (Kd.C_below HR0_6.out HB.out) | (with_reducible refine Kd.C_alloc ?_ _) | (with_reducible refine Kd.C_drewN ?_ _) | (with_reducible refine Kd.C_drew ?_))); (case side6 => exact HC0_6.out); (case side7 => repeat (first | exact (Kd.C_below HR0_9.out HB.out) | (with_reducible refine Kd.C_alloc ?_ _) | (with_reducible refine Kd.C_drewN ?_ _) | (with_reducible refine Kd.C_drew ?_))); (case side8 => exact HC0_9.out); rintro e w57 ⟨rfl, hb⟩; refine ⟨_, rfl, ?_⟩; have n0_ := iC.mk (jX (g := gb135) (o := .cells #[.int .u8 a0_0, .int .u32 a0_1, .int .u32 a0_2, .slice A0_3 l0_3.length c0_3, .slice A0_4 l0_4.length c0_4, .int .u32 a0_5, .slice A0_6 l0_6.length c0_6, .int .i64 a0_7, .int .i64 a0_8, .slice A0_9 l0_9.length c0_9] 30 (0, 0)) (bk_ BK135.out) hb); have n1_ := iC.mk (iI (by repeat (first | (with_reducible first | exact HB.out | apply iF | apply iG | apply iJ | refine iM ?_ GE135.out) | exact HB.out)) hb); clear BK135; clear HB; have BK135 := n0_; have HB := n1_; clear n0_ n1_; (try clear hb); (try clear hb2); (try clear hk); (try clear hi); have hcz58_0 : w57.cell? ⟨gb135, 0, none⟩ = some (.int .u8 a0_0) := (iE BK135.out 0).trans rfl; have hcz58_1 : w57.cell? ⟨gb135, 1, none⟩ = some (.int .u32 a0_1) := (iE BK135.out 1).trans rfl; have hcz58_2 : w57.cell? ⟨gb135, 2, none⟩ = some (.int .u32 a0_2) := (iE BK135.out 2).trans rfl; have hcz58_3 : w57.cell? ⟨gb135, 3, none⟩ = some (.slice A0_3 l0_3.length c0_3) := (iE BK135.out 3).trans rfl; have hcz58_4 : w57.cell? ⟨gb135, 4, none⟩ = some (.slice A0_4 l0_4.length c0_4) := (iE BK135.out 4).trans rfl; have hcz58_5 : w57.cell? ⟨gb135, 5, none⟩ = some (.int .u32 a0_5) := (iE BK135.out 5).trans rfl; have hcz58_6 : w57.cell? ⟨gb135, 6, none⟩ = some (.slice A0_6 l0_6.length c0_6) := (iE BK135.out 6).trans rfl; have hcz58_7 : w57.cell? ⟨gb135, 7, none⟩ = some (.int .i64 a0_7) := (iE BK135.out 7).trans rfl; have hcz58_8 : w57.cell? ⟨gb135, 8, none⟩ = some (.int .i64 a0_8) := (iE BK135.out 8).trans rfl; have hcz58_9 : w57.cell? ⟨gb135, 9, none⟩ = some (.slice A0_9 l0_9.length c0_9) := (iE BK135.out 9).trans rfl; have hfz58_0 := iD BK135.out 0; have hfz58_1 := iD BK135.out 1; have hfz58_2 := iD BK135.out 2; have hfz58_3 := iD BK135.out 3; have hfz58_4 := iD BK135.out 4; have hfz58_5 := iD BK135.out 5; have hfz58_6 := iD BK135.out 6; have hfz58_7 := iD BK135.out 7; have hfz58_8 := iD BK135.out 8; have hfz58_9 := iD BK135.out 9) | (go_at_call 72; (with_reducible refine (stratumref07_SoundEntries.calls kj29 _ _ l0_9 true _ ?side1 ?side2 A51.out).mono ?_); (case side1 => repeat (first | exact (Kd.C_below HR0_9.out HB.out) | (with_reducible refine Kd.C_alloc ?_ _) | (with_reducible refine Kd.C_drewN ?_ _) | (with_reducible refine Kd.C_drew ?_))); (case side2 => exact HC0_9.out); rintro e w' ⟨rfl, ⟨nd, rfl⟩⟩))
                          go_ret
                          exact ⟨by first | rfl | (simp [iT, iU] <;> rfl) | (simp [*, iT, iU] <;> rfl), by repeat (first | (with_reducible first | exact HB.out | apply iF | apply iG | apply iJ | refine iM ?_ GE135.out) | exact HB.out)⟩
                        · rw [if_neg c55] at H
                          have c55b0 : decide (0 ≤ a0_8) = false := decide_eq_false c55
                          clear c55
                          obtain rfl := Option.some.inj H
                          have hcz59_0 : wc.cell? ⟨gb135, 0, none⟩ = some (.int .u8 a0_0) := (iE BK135.out 0).trans rfl
                          have hcz59_1 : wc.cell? ⟨gb135, 1, none⟩ = some (.int .u32 a0_1) := (iE BK135.out 1).trans rfl
                          have hcz59_2 : wc.cell? ⟨gb135, 2, none⟩ = some (.int .u32 a0_2) := (iE BK135.out 2).trans rfl
                          have hcz59_3 : wc.cell? ⟨gb135, 3, none⟩ = some (.slice A0_3 l0_3.length c0_3) := (iE BK135.out 3).trans rfl
                          have hcz59_4 : wc.cell? ⟨gb135, 4, none⟩ = some (.slice A0_4 l0_4.length c0_4) := (iE BK135.out 4).trans rfl
                          have hcz59_5 : wc.cell? ⟨gb135, 5, none⟩ = some (.int .u32 a0_5) := (iE BK135.out 5).trans rfl
                          have hcz59_6 : wc.cell? ⟨gb135, 6, none⟩ = some (.slice A0_6 l0_6.length c0_6) := (iE BK135.out 6).trans rfl
                          have hcz59_7 : wc.cell? ⟨gb135, 7, none⟩ = some (.int .i64 a0_7) := (iE BK135.out 7).trans rfl
                          have hcz59_8 : wc.cell? ⟨gb135, 8, none⟩ = some (.int .i64 a0_8) := (iE BK135.out 8).trans rfl
                          have hcz59_9 : wc.cell? ⟨gb135, 9, none⟩ = some (.slice A0_9 l0_9.length c0_9) := (iE BK135.out 9).trans rfl
                          have hfz59_0 := iD BK135.out 0
                          have hfz59_1 := iD BK135.out 1
                          have hfz59_2 := iD BK135.out 2
                          have hfz59_3 := iD BK135.out 3
                          have hfz59_4 := iD BK135.out 4
                          have hfz59_5 := iD BK135.out 5
                          have hfz59_6 := iD BK135.out 6
                          have hfz59_7 := iD BK135.out 7
                          have hfz59_8 := iD BK135.out 8
                          have hfz59_9 := iD BK135.out 9
                          go_wp2_with (first | ((with_reducible refine jS (f := 68) rfl ?_); refine lV (some 47) rfl rfl Tryd.func68 (by kernel_rfl) rfl #[.agg #[.int .u8 a0_0, .int .u32 a0_1, .int .u32 a0_2, .slice A0_3 l0_3.length c0_3, .slice A0_4 l0_4.length c0_4, .int .u32 a0_5, .slice A0_6 l0_6.length c0_6, .int .i64 a0_7, .int .i64 a0_8, .slice A0_9 l0_9.length c0_9], .string (⟨#[73, 82]⟩ : ByteArray)] rfl (by (try simp only [List.map_toArray, List.map_cons, List.map_nil]); first | done | rfl | (simp only [List.length_drop, List.length_take]; rfl)) ?_; (with_reducible refine (stratumref07_bare.calls a0_0 a0_1 a0_2 _ _ l0_3 _ _ l0_4 a0_5 _ _ l0_6 a0_7 a0_8 _ _ l0_9 (⟨#[73, 82]⟩ : ByteArray) true _ ?side1 ?side2 ?side3 ?side4 ?side5 ?side6 ?side7 ?side8 A49.out).mono ?_); (case side1 => repeat (first | exact (Kd.C_below HR0_3.out HB.out) | (with_reducible refine Kd.C_alloc ?_ _) | (with_reducible refine Kd.C_drewN ?_ _) | (with_reducible refine Kd.C_drew ?_))); (case side2 => exact HC0_3.out); (case side3 => repeat (first | exact (Kd.C_below HR0_4.out HB.out) | (with_reducible refine Kd.C_alloc ?_ _) | (with_reducible refine Kd.C_drewN ?_ _) | (with_reducible refine Kd.C_drew ?_))); (case side4 => exact HC0_4.out); (case side5 => repeat (first | exact (Kd.C_below HR0_6.out HB.out) | (with_reducible refine Kd.C_alloc ?_ _) | (with_reducible refine Kd.C_drewN ?_ _) | (with_reducible refine Kd.C_drew ?_))); (case side6 => exact HC0_6.out); (case side7 => repeat (first | exact (Kd.C_below HR0_9.out HB.out) | (with_reducible refine Kd.C_alloc ?_ _) | (with_reducible refine Kd.C_drewN ?_ _) | (with_reducible refine Kd.C_drew ?_))); (case side8 => exact HC0_9.out); rintro e w60 ⟨rfl, hb⟩; refine ⟨_, rfl, ?_⟩; have n0_ := iC.mk (jX (g := gb135) (o := .cells #[.int .u8 a0_0, .int .u32 a0_1, .int .u32 a0_2, .slice A0_3 l0_3.length c0_3, .slice A0_4 l0_4.length c0_4, .int .u32 a0_5, .slice A0_6 l0_6.length c0_6, .int .i64 a0_7, .int .i64 a0_8, .slice A0_9 l0_9.length c0_9] 30 (0, 0)) (bk_ BK135.out) hb); have n1_ := iC.mk (iI (by repeat (first | (with_reducible first | exact HB.out | apply iF | apply iG | apply iJ | refine iM ?_ GE135.out) | exact HB.out)) hb); clear BK135; clear HB; have BK135 := n0_; have HB := n1_; clear n0_ n1_; (try clear hb); (try clear hb2); (try clear hk); (try clear hi); have hcz61_0 : w60.cell? ⟨gb135, 0, none⟩ = some (.int .u8 a0_0) := (iE BK135.out 0).trans rfl; have hcz61_1 : w60.cell? ⟨gb135, 1, none⟩ = some (.int .u32 a0_1) := (iE BK135.out 1).trans rfl; have hcz61_2 : w60.cell? ⟨gb135, 2, none⟩ = some (.int .u32 a0_2) := (iE BK135.out 2).trans rfl; have hcz61_3 : w60.cell? ⟨gb135, 3, none⟩ = some (.slice A0_3 l0_3.length c0_3) := (iE BK135.out 3).trans rfl; have hcz61_4 : w60.cell? ⟨gb135, 4, none⟩ = some (.slice A0_4 l0_4.length c0_4) := (iE BK135.out 4).trans rfl; have hcz61_5 : w60.cell? ⟨gb135, 5, none⟩ = some (.int .u32 a0_5) := (iE BK135.out 5).trans rfl; have hcz61_6 : w60.cell? ⟨gb135, 6, none⟩ = some (.slice A0_6 l0_6.length c0_6) := (iE BK135.out 6).trans rfl; have hcz61_7 : w60.cell? ⟨gb135, 7, none⟩ = some (.int .i64 a0_7) := (iE BK135.out 7).trans rfl; have hcz61_8 : w60.cell? ⟨gb135, 8, none⟩ = some (.int .i64 a0_8) := (iE BK135.out 8).trans rfl; have hcz61_9 : w60.cell? ⟨gb135, 9, none⟩ = some (.slice A0_9 l0_9.length c0_9) := (iE BK135.out 9).trans rfl; have hfz61_0 := iD BK135.out 0; have hfz61_1 := iD BK135.out 1; have hfz61_2 := iD BK135.out 2; have hfz61_3 := iD BK135.out 3; have hfz61_4 := iD BK135.out 4; have hfz61_5 := iD BK135.out 5; have hfz61_6 := iD BK135.out 6; have hfz61_7 := iD BK135.out 7; have hfz61_8 := iD BK135.out 8; have hfz61_9 := iD BK135.out 9) | (go_at_call 72; (with_reducible refine (stratumref07_SoundEntries.calls kj29 _ _ l0_9 true _ ?side1 ?side2 A51.out).mono ?_); (case side1 => repeat (first | exact (Kd.C_below HR0_9.out HB.out) | (with_reducible refine Kd.C_alloc ?_ _) | (with_reducible refine Kd.C_drewN ?_ _) | (with_reducible refine Kd.C_drew ?_))); (case side2 => exact HC0_9.out); rintro e w' ⟨rfl, ⟨nd, rfl⟩⟩))
                          go_ret
                          exact ⟨by first | rfl | (simp [iT, iU] <;> rfl) | (simp [*, iT, iU] <;> rfl), by repeat (first | (with_reducible first | exact HB.out | apply iF | apply iG | apply iJ | refine iM ?_ GE135.out) | exact HB.out)⟩
                      · rw [if_neg c54] at H
                        have c54b0 : decide (a0_7 ≤ 10000) = false := decide_eq_false c54
                        clear c54
                        obtain rfl := Option.some.inj H
                        have hcz62_0 : wc.cell? ⟨gb135, 0, none⟩ = some (.int .u8 a0_0) := (iE BK135.out 0).trans rfl
                        have hcz62_1 : wc.cell? ⟨gb135, 1, none⟩ = some (.int .u32 a0_1) := (iE BK135.out 1).trans rfl
                        have hcz62_2 : wc.cell? ⟨gb135, 2, none⟩ = some (.int .u32 a0_2) := (iE BK135.out 2).trans rfl
                        have hcz62_3 : wc.cell? ⟨gb135, 3, none⟩ = some (.slice A0_3 l0_3.length c0_3) := (iE BK135.out 3).trans rfl
                        have hcz62_4 : wc.cell? ⟨gb135, 4, none⟩ = some (.slice A0_4 l0_4.length c0_4) := (iE BK135.out 4).trans rfl
                        have hcz62_5 : wc.cell? ⟨gb135, 5, none⟩ = some (.int .u32 a0_5) := (iE BK135.out 5).trans rfl
                        have hcz62_6 : wc.cell? ⟨gb135, 6, none⟩ = some (.slice A0_6 l0_6.length c0_6) := (iE BK135.out 6).trans rfl
                        have hcz62_7 : wc.cell? ⟨gb135, 7, none⟩ = some (.int .i64 a0_7) := (iE BK135.out 7).trans rfl
                        have hcz62_8 : wc.cell? ⟨gb135, 8, none⟩ = some (.int .i64 a0_8) := (iE BK135.out 8).trans rfl
                        have hcz62_9 : wc.cell? ⟨gb135, 9, none⟩ = some (.slice A0_9 l0_9.length c0_9) := (iE BK135.out 9).trans rfl
                        have hfz62_0 := iD BK135.out 0
                        have hfz62_1 := iD BK135.out 1
                        have hfz62_2 := iD BK135.out 2
                        have hfz62_3 := iD BK135.out 3
                        have hfz62_4 := iD BK135.out 4
                        have hfz62_5 := iD BK135.out 5
                        have hfz62_6 := iD BK135.out 6
                        have hfz62_7 := iD BK135.out 7
                        have hfz62_8 := iD BK135.out 8
                        have hfz62_9 := iD BK135.out 9
                        go_wp2_with (first | ((with_reducible refine jS (f := 68) rfl ?_); refine lV (some 47) rfl rfl Tryd.func68 (by kernel_rfl) rfl #[.agg #[.int .u8 a0_0, .int .u32 a0_1, .int .u32 a0_2, .slice A0_3 l0_3.length c0_3, .slice A0_4 l0_4.length c0_4, .int .u32 a0_5, .slice A0_6 l0_6.length c0_6, .int .i64 a0_7, .int .i64 a0_8, .slice A0_9 l0_9.length c0_9], .string (⟨#[73, 82]⟩ : ByteArray)] rfl (by (try simp only [List.map_toArray, List.map_cons, List.map_nil]); first | done | rfl | (simp only [List.length_drop, List.length_take]; rfl)) ?_; (with_reducible refine (stratumref07_bare.calls a0_0 a0_1 a0_2 _ _ l0_3 _ _ l0_4 a0_5 _ _ l0_6 a0_7 a0_8 _ _ l0_9 (⟨#[73, 82]⟩ : ByteArray) true _ ?side1 ?side2 ?side3 ?side4 ?side5 ?side6 ?side7 ?side8 A49.out).mono ?_); (case side1 => repeat (first | exact (Kd.C_below HR0_3.out HB.out) | (with_reducible refine Kd.C_alloc ?_ _) | (with_reducible refine Kd.C_drewN ?_ _) | (with_reducible refine Kd.C_drew ?_))); (case side2 => exact HC0_3.out); (case side3 => repeat (first | exact (Kd.C_below HR0_4.out HB.out) | (with_reducible refine Kd.C_alloc ?_ _) | (with_reducible refine Kd.C_drewN ?_ _) | (with_reducible refine Kd.C_drew ?_))); (case side4 => exact HC0_4.out); (case side5 => repeat (first | exact (Kd.C_below HR0_6.out HB.out) | (with_reducible refine Kd.C_alloc ?_ _) | (with_reducible refine Kd.C_drewN ?_ _) | (with_reducible refine Kd.C_drew ?_))); (case side6 => exact HC0_6.out); (case side7 => repeat (first | exact (Kd.C_below HR0_9.out HB.out) | (with_reducible refine Kd.C_alloc ?_ _) | (with_reducible refine Kd.C_drewN ?_ _) | (with_reducible refine Kd.C_drew ?_))); (case side8 => exact HC0_9.out); rintro e w63 ⟨rfl, hb⟩; refine ⟨_, rfl, ?_⟩; have n0_ := iC.mk (jX (g := gb135) (o := .cells #[.int .u8 a0_0, .int .u32 a0_1, .int .u32 a0_2, .slice A0_3 l0_3.length c0_3, .slice A0_4 l0_4.length c0_4, .int .u32 a0_5, .slice A0_6 l0_6.length c0_6, .int .i64 a0_7, .int .i64 a0_8, .slice A0_9 l0_9.length c0_9] 30 (0, 0)) (bk_ BK135.out) hb); have n1_ := iC.mk (iI (by repeat (first | (with_reducible first | exact HB.out | apply iF | apply iG | apply iJ | refine iM ?_ GE135.out) | exact HB.out)) hb); clear BK135; clear HB; have BK135 := n0_; have HB := n1_; clear n0_ n1_; (try clear hb); (try clear hb2); (try clear hk); (try clear hi); have hcz64_0 : w63.cell? ⟨gb135, 0, none⟩ = some (.int .u8 a0_0) := (iE BK135.out 0).trans rfl; have hcz64_1 : w63.cell? ⟨gb135, 1, none⟩ = some (.int .u32 a0_1) := (iE BK135.out 1).trans rfl; have hcz64_2 : w63.cell? ⟨gb135, 2, none⟩ = some (.int .u32 a0_2) := (iE BK135.out 2).trans rfl; have hcz64_3 : w63.cell? ⟨gb135, 3, none⟩ = some (.slice A0_3 l0_3.length c0_3) := (iE BK135.out 3).trans rfl; have hcz64_4 : w63.cell? ⟨gb135, 4, none⟩ = some (.slice A0_4 l0_4.length c0_4) := (iE BK135.out 4).trans rfl; have hcz64_5 : w63.cell? ⟨gb135, 5, none⟩ = some (.int .u32 a0_5) := (iE BK135.out 5).trans rfl; have hcz64_6 : w63.cell? ⟨gb135, 6, none⟩ = some (.slice A0_6 l0_6.length c0_6) := (iE BK135.out 6).trans rfl; have hcz64_7 : w63.cell? ⟨gb135, 7, none⟩ = some (.int .i64 a0_7) := (iE BK135.out 7).trans rfl; have hcz64_8 : w63.cell? ⟨gb135, 8, none⟩ = some (.int .i64 a0_8) := (iE BK135.out 8).trans rfl; have hcz64_9 : w63.cell? ⟨gb135, 9, none⟩ = some (.slice A0_9 l0_9.length c0_9) := (iE BK135.out 9).trans rfl; have hfz64_0 := iD BK135.out 0; have hfz64_1 := iD BK135.out 1; have hfz64_2 := iD BK135.out 2; have hfz64_3 := iD BK135.out 3; have hfz64_4 := iD BK135.out 4; have hfz64_5 := iD BK135.out 5; have hfz64_6 := iD BK135.out 6; have hfz64_7 := iD BK135.out 7; have hfz64_8 := iD BK135.out 8; have hfz64_9 := iD BK135.out 9) | (go_at_call 72; (with_reducible refine (stratumref07_SoundEntries.calls kj29 _ _ l0_9 true _ ?side1 ?side2 A51.out).mono ?_); (case side1 => repeat (first | exact (Kd.C_below HR0_9.out HB.out) | (with_reducible refine Kd.C_alloc ?_ _) | (with_reducible refine Kd.C_drewN ?_ _) | (with_reducible refine Kd.C_drew ?_))); (case side2 => exact HC0_9.out); rintro e w' ⟨rfl, ⟨nd, rfl⟩⟩))
                        go_ret
                        exact ⟨by first | rfl | (simp [iT, iU] <;> rfl) | (simp [*, iT, iU] <;> rfl), by repeat (first | (with_reducible first | exact HB.out | apply iF | apply iG | apply iJ | refine iM ?_ GE135.out) | exact HB.out)⟩
                    · rw [if_neg c53] at H
                      have c53b0 : decide (0 ≤ a0_7) = false := decide_eq_false c53
                      clear c53
                      obtain rfl := Option.some.inj H
                      have hcz65_0 : wc.cell? ⟨gb135, 0, none⟩ = some (.int .u8 a0_0) := (iE BK135.out 0).trans rfl
                      have hcz65_1 : wc.cell? ⟨gb135, 1, none⟩ = some (.int .u32 a0_1) := (iE BK135.out 1).trans rfl
                      have hcz65_2 : wc.cell? ⟨gb135, 2, none⟩ = some (.int .u32 a0_2) := (iE BK135.out 2).trans rfl
                      have hcz65_3 : wc.cell? ⟨gb135, 3, none⟩ = some (.slice A0_3 l0_3.length c0_3) := (iE BK135.out 3).trans rfl
                      have hcz65_4 : wc.cell? ⟨gb135, 4, none⟩ = some (.slice A0_4 l0_4.length c0_4) := (iE BK135.out 4).trans rfl
                      have hcz65_5 : wc.cell? ⟨gb135, 5, none⟩ = some (.int .u32 a0_5) := (iE BK135.out 5).trans rfl
                      have hcz65_6 : wc.cell? ⟨gb135, 6, none⟩ = some (.slice A0_6 l0_6.length c0_6) := (iE BK135.out 6).trans rfl
                      have hcz65_7 : wc.cell? ⟨gb135, 7, none⟩ = some (.int .i64 a0_7) := (iE BK135.out 7).trans rfl
                      have hcz65_8 : wc.cell? ⟨gb135, 8, none⟩ = some (.int .i64 a0_8) := (iE BK135.out 8).trans rfl
                      have hcz65_9 : wc.cell? ⟨gb135, 9, none⟩ = some (.slice A0_9 l0_9.length c0_9) := (iE BK135.out 9).trans rfl
                      have hfz65_0 := iD BK135.out 0
                      have hfz65_1 := iD BK135.out 1
                      have hfz65_2 := iD BK135.out 2
                      have hfz65_3 := iD BK135.out 3
                      have hfz65_4 := iD BK135.out 4
                      have hfz65_5 := iD BK135.out 5
                      have hfz65_6 := iD BK135.out 6
                      have hfz65_7 := iD BK135.out 7
                      have hfz65_8 := iD BK135.out 8
                      have hfz65_9 := iD BK135.out 9
                      go_wp2_with (first | ((with_reducible refine jS (f := 68) rfl ?_); refine lV (some 47) rfl rfl Tryd.func68 (by kernel_rfl) rfl #[.agg #[.int .u8 a0_0, .int .u32 a0_1, .int .u32 a0_2, .slice A0_3 l0_3.length c0_3, .slice A0_4 l0_4.length c0_4, .int .u32 a0_5, .slice A0_6 l0_6.length c0_6, .int .i64 a0_7, .int .i64 a0_8, .slice A0_9 l0_9.length c0_9], .string (⟨#[73, 82]⟩ : ByteArray)] rfl (by (try simp only [List.map_toArray, List.map_cons, List.map_nil]); first | done | rfl | (simp only [List.length_drop, List.length_take]; rfl)) ?_; (with_reducible refine (stratumref07_bare.calls a0_0 a0_1 a0_2 _ _ l0_3 _ _ l0_4 a0_5 _ _ l0_6 a0_7 a0_8 _ _ l0_9 (⟨#[73, 82]⟩ : ByteArray) true _ ?side1 ?side2 ?side3 ?side4 ?side5 ?side6 ?side7 ?side8 A49.out).mono ?_); (case side1 => repeat (first | exact (Kd.C_below HR0_3.out HB.out) | (with_reducible refine Kd.C_alloc ?_ _) | (with_reducible refine Kd.C_drewN ?_ _) | (with_reducible refine Kd.C_drew ?_))); (case side2 => exact HC0_3.out); (case side3 => repeat (first | exact (Kd.C_below HR0_4.out HB.out) | (with_reducible refine Kd.C_alloc ?_ _) | (with_reducible refine Kd.C_drewN ?_ _) | (with_reducible refine Kd.C_drew ?_))); (case side4 => exact HC0_4.out); (case side5 => repeat (first | exact (Kd.C_below HR0_6.out HB.out) | (with_reducible refine Kd.C_alloc ?_ _) | (with_reducible refine Kd.C_drewN ?_ _) | (with_reducible refine Kd.C_drew ?_))); (case side6 => exact HC0_6.out); (case side7 => repeat (first | exact (Kd.C_below HR0_9.out HB.out) | (with_reducible refine Kd.C_alloc ?_ _) | (with_reducible refine Kd.C_drewN ?_ _) | (with_reducible refine Kd.C_drew ?_))); (case side8 => exact HC0_9.out); rintro e w66 ⟨rfl, hb⟩; refine ⟨_, rfl, ?_⟩; have n0_ := iC.mk (jX (g := gb135) (o := .cells #[.int .u8 a0_0, .int .u32 a0_1, .int .u32 a0_2, .slice A0_3 l0_3.length c0_3, .slice A0_4 l0_4.length c0_4, .int .u32 a0_5, .slice A0_6 l0_6.length c0_6, .int .i64 a0_7, .int .i64 a0_8, .slice A0_9 l0_9.length c0_9] 30 (0, 0)) (bk_ BK135.out) hb); have n1_ := iC.mk (iI (by repeat (first | (with_reducible first | exact HB.out | apply iF | apply iG | apply iJ | refine iM ?_ GE135.out) | exact HB.out)) hb); clear BK135; clear HB; have BK135 := n0_; have HB := n1_; clear n0_ n1_; (try clear hb); (try clear hb2); (try clear hk); (try clear hi); have hcz67_0 : w66.cell? ⟨gb135, 0, none⟩ = some (.int .u8 a0_0) := (iE BK135.out 0).trans rfl; have hcz67_1 : w66.cell? ⟨gb135, 1, none⟩ = some (.int .u32 a0_1) := (iE BK135.out 1).trans rfl; have hcz67_2 : w66.cell? ⟨gb135, 2, none⟩ = some (.int .u32 a0_2) := (iE BK135.out 2).trans rfl; have hcz67_3 : w66.cell? ⟨gb135, 3, none⟩ = some (.slice A0_3 l0_3.length c0_3) := (iE BK135.out 3).trans rfl; have hcz67_4 : w66.cell? ⟨gb135, 4, none⟩ = some (.slice A0_4 l0_4.length c0_4) := (iE BK135.out 4).trans rfl; have hcz67_5 : w66.cell? ⟨gb135, 5, none⟩ = some (.int .u32 a0_5) := (iE BK135.out 5).trans rfl; have hcz67_6 : w66.cell? ⟨gb135, 6, none⟩ = some (.slice A0_6 l0_6.length c0_6) := (iE BK135.out 6).trans rfl; have hcz67_7 : w66.cell? ⟨gb135, 7, none⟩ = some (.int .i64 a0_7) := (iE BK135.out 7).trans rfl; have hcz67_8 : w66.cell? ⟨gb135, 8, none⟩ = some (.int .i64 a0_8) := (iE BK135.out 8).trans rfl; have hcz67_9 : w66.cell? ⟨gb135, 9, none⟩ = some (.slice A0_9 l0_9.length c0_9) := (iE BK135.out 9).trans rfl; have hfz67_0 := iD BK135.out 0; have hfz67_1 := iD BK135.out 1; have hfz67_2 := iD BK135.out 2; have hfz67_3 := iD BK135.out 3; have hfz67_4 := iD BK135.out 4; have hfz67_5 := iD BK135.out 5; have hfz67_6 := iD BK135.out 6; have hfz67_7 := iD BK135.out 7; have hfz67_8 := iD BK135.out 8; have hfz67_9 := iD BK135.out 9) | (go_at_call 72; (with_reducible refine (stratumref07_SoundEntries.calls kj29 _ _ l0_9 true _ ?side1 ?side2 A51.out).mono ?_); (case side1 => repeat (first | exact (Kd.C_below HR0_9.out HB.out) | (with_reducible refine Kd.C_alloc ?_ _) | (with_reducible refine Kd.C_drewN ?_ _) | (with_reducible refine Kd.C_drew ?_))); (case side2 => exact HC0_9.out); rintro e w' ⟨rfl, ⟨nd, rfl⟩⟩))
                      go_ret
                      exact ⟨by first | rfl | (simp [iT, iU] <;> rfl) | (simp [*, iT, iU] <;> rfl), by repeat (first | (with_reducible first | exact HB.out | apply iF | apply iG | apply iJ | refine iM ?_ GE135.out) | exact HB.out)⟩
                  · replace c52 := Bool.eq_false_iff.mpr c52
                    subst c52
                    have H1 : (some false) = some r := by rw [if_neg (show ¬ (false = true) by decide)] at H; exact H
                    clear H
                    have H := H1
                    clear H1
                    obtain rfl := Option.some.inj H
                    have hcz68_0 : wc.cell? ⟨gb135, 0, none⟩ = some (.int .u8 a0_0) := (iE BK135.out 0).trans rfl
                    have hcz68_1 : wc.cell? ⟨gb135, 1, none⟩ = some (.int .u32 a0_1) := (iE BK135.out 1).trans rfl
                    have hcz68_2 : wc.cell? ⟨gb135, 2, none⟩ = some (.int .u32 a0_2) := (iE BK135.out 2).trans rfl
                    have hcz68_3 : wc.cell? ⟨gb135, 3, none⟩ = some (.slice A0_3 l0_3.length c0_3) := (iE BK135.out 3).trans rfl
                    have hcz68_4 : wc.cell? ⟨gb135, 4, none⟩ = some (.slice A0_4 l0_4.length c0_4) := (iE BK135.out 4).trans rfl
                    have hcz68_5 : wc.cell? ⟨gb135, 5, none⟩ = some (.int .u32 a0_5) := (iE BK135.out 5).trans rfl
                    have hcz68_6 : wc.cell? ⟨gb135, 6, none⟩ = some (.slice A0_6 l0_6.length c0_6) := (iE BK135.out 6).trans rfl
                    have hcz68_7 : wc.cell? ⟨gb135, 7, none⟩ = some (.int .i64 a0_7) := (iE BK135.out 7).trans rfl
                    have hcz68_8 : wc.cell? ⟨gb135, 8, none⟩ = some (.int .i64 a0_8) := (iE BK135.out 8).trans rfl
                    have hcz68_9 : wc.cell? ⟨gb135, 9, none⟩ = some (.slice A0_9 l0_9.length c0_9) := (iE BK135.out 9).trans rfl
                    have hfz68_0 := iD BK135.out 0
                    have hfz68_1 := iD BK135.out 1
                    have hfz68_2 := iD BK135.out 2
                    have hfz68_3 := iD BK135.out 3
                    have hfz68_4 := iD BK135.out 4
                    have hfz68_5 := iD BK135.out 5
                    have hfz68_6 := iD BK135.out 6
                    have hfz68_7 := iD BK135.out 7
                    have hfz68_8 := iD BK135.out 8
                    have hfz68_9 := iD BK135.out 9
                    go_wp2_with (first | ((with_reducible refine jS (f := 68) rfl ?_); refine lV (some 47) rfl rfl Tryd.func68 (by kernel_rfl) rfl #[.agg #[.int .u8 a0_0, .int .u32 a0_1, .int .u32 a0_2, .slice A0_3 l0_3.length c0_3, .slice A0_4 l0_4.length c0_4, .int .u32 a0_5, .slice A0_6 l0_6.length c0_6, .int .i64 a0_7, .int .i64 a0_8, .slice A0_9 l0_9.length c0_9], .string (⟨#[73, 82]⟩ : ByteArray)] rfl (by (try simp only [List.map_toArray, List.map_cons, List.map_nil]); first | done | rfl | (simp only [List.length_drop, List.length_take]; rfl)) ?_; (with_reducible refine (stratumref07_bare.calls a0_0 a0_1 a0_2 _ _ l0_3 _ _ l0_4 a0_5 _ _ l0_6 a0_7 a0_8 _ _ l0_9 (⟨#[73, 82]⟩ : ByteArray) true _ ?side1 ?side2 ?side3 ?side4 ?side5 ?side6 ?side7 ?side8 A49.out).mono ?_); (case side1 => repeat (first | exact (Kd.C_below HR0_3.out HB.out) | (with_reducible refine Kd.C_alloc ?_ _) | (with_reducible refine Kd.C_drewN ?_ _) | (with_reducible refine Kd.C_drew ?_))); (case side2 => exact HC0_3.out); (case side3 => repeat (first | exact (Kd.C_below HR0_4.out HB.out) | (with_reducible refine Kd.C_alloc ?_ _) | (with_reducible refine Kd.C_drewN ?_ _) | (with_reducible refine Kd.C_drew ?_))); (case side4 => exact HC0_4.out); (case side5 => repeat (first | exact (Kd.C_below HR0_6.out HB.out) | (with_reducible refine Kd.C_alloc ?_ _) | (with_reducible refine Kd.C_drewN ?_ _) | (with_reducible refine Kd.C_drew ?_))); (case side6 => exact HC0_6.out); (case side7 => repeat (first | exact (Kd.C_below HR0_9.out HB.out) | (with_reducible refine Kd.C_alloc ?_ _) | (with_reducible refine Kd.C_drewN ?_ _) | (with_reducible refine Kd.C_drew ?_))); (case side8 => exact HC0_9.out); rintro e w69 ⟨rfl, hb⟩; refine ⟨_, rfl, ?_⟩; have n0_ := iC.mk (jX (g := gb135) (o := .cells #[.int .u8 a0_0, .int .u32 a0_1, .int .u32 a0_2, .slice A0_3 l0_3.length c0_3, .slice A0_4 l0_4.length c0_4, .int .u32 a0_5, .slice A0_6 l0_6.length c0_6, .int .i64 a0_7, .int .i64 a0_8, .slice A0_9 l0_9.length c0_9] 30 (0, 0)) (bk_ BK135.out) hb); have n1_ := iC.mk (iI (by repeat (first | (with_reducible first | exact HB.out | apply iF | apply iG | apply iJ | refine iM ?_ GE135.out) | exact HB.out)) hb); clear BK135; clear HB; have BK135 := n0_; have HB := n1_; clear n0_ n1_; (try clear hb); (try clear hb2); (try clear hk); (try clear hi); have hcz70_0 : w69.cell? ⟨gb135, 0, none⟩ = some (.int .u8 a0_0) := (iE BK135.out 0).trans rfl; have hcz70_1 : w69.cell? ⟨gb135, 1, none⟩ = some (.int .u32 a0_1) := (iE BK135.out 1).trans rfl; have hcz70_2 : w69.cell? ⟨gb135, 2, none⟩ = some (.int .u32 a0_2) := (iE BK135.out 2).trans rfl; have hcz70_3 : w69.cell? ⟨gb135, 3, none⟩ = some (.slice A0_3 l0_3.length c0_3) := (iE BK135.out 3).trans rfl; have hcz70_4 : w69.cell? ⟨gb135, 4, none⟩ = some (.slice A0_4 l0_4.length c0_4) := (iE BK135.out 4).trans rfl; have hcz70_5 : w69.cell? ⟨gb135, 5, none⟩ = some (.int .u32 a0_5) := (iE BK135.out 5).trans rfl; have hcz70_6 : w69.cell? ⟨gb135, 6, none⟩ = some (.slice A0_6 l0_6.length c0_6) := (iE BK135.out 6).trans rfl; have hcz70_7 : w69.cell? ⟨gb135, 7, none⟩ = some (.int .i64 a0_7) := (iE BK135.out 7).trans rfl; have hcz70_8 : w69.cell? ⟨gb135, 8, none⟩ = some (.int .i64 a0_8) := (iE BK135.out 8).trans rfl; have hcz70_9 : w69.cell? ⟨gb135, 9, none⟩ = some (.slice A0_9 l0_9.length c0_9) := (iE BK135.out 9).trans rfl; have hfz70_0 := iD BK135.out 0; have hfz70_1 := iD BK135.out 1; have hfz70_2 := iD BK135.out 2; have hfz70_3 := iD BK135.out 3; have hfz70_4 := iD BK135.out 4; have hfz70_5 := iD BK135.out 5; have hfz70_6 := iD BK135.out 6; have hfz70_7 := iD BK135.out 7; have hfz70_8 := iD BK135.out 8; have hfz70_9 := iD BK135.out 9) | (go_at_call 72; (with_reducible refine (stratumref07_SoundEntries.calls kj29 _ _ l0_9 false _ ?side1 ?side2 A51.out).mono ?_); (case side1 => repeat (first | exact (Kd.C_below HR0_9.out HB.out) | (with_reducible refine Kd.C_alloc ?_ _) | (with_reducible refine Kd.C_drewN ?_ _) | (with_reducible refine Kd.C_drew ?_))); (case side2 => exact HC0_9.out); rintro e w' ⟨rfl, ⟨nd, rfl⟩⟩))
                    go_ret
                    exact ⟨by first | rfl | (simp [iT, iU] <;> rfl) | (simp [*, iT, iU] <;> rfl), by repeat (first | (with_reducible first | exact HB.out | apply iF | apply iG | apply iJ | refine iM ?_ GE135.out) | exact HB.out)⟩
                · replace c50 := Bool.eq_false_iff.mpr c50
                  subst c50
                  have H1 : (some false) = some r := by rw [if_neg (show ¬ (false = true) by decide)] at H; exact H
                  clear H
                  have H := H1
                  clear H1
                  obtain rfl := Option.some.inj H
                  have hcz71_0 : wc.cell? ⟨gb135, 0, none⟩ = some (.int .u8 a0_0) := (iE BK135.out 0).trans rfl
                  have hcz71_1 : wc.cell? ⟨gb135, 1, none⟩ = some (.int .u32 a0_1) := (iE BK135.out 1).trans rfl
                  have hcz71_2 : wc.cell? ⟨gb135, 2, none⟩ = some (.int .u32 a0_2) := (iE BK135.out 2).trans rfl
                  have hcz71_3 : wc.cell? ⟨gb135, 3, none⟩ = some (.slice A0_3 l0_3.length c0_3) := (iE BK135.out 3).trans rfl
                  have hcz71_4 : wc.cell? ⟨gb135, 4, none⟩ = some (.slice A0_4 l0_4.length c0_4) := (iE BK135.out 4).trans rfl
                  have hcz71_5 : wc.cell? ⟨gb135, 5, none⟩ = some (.int .u32 a0_5) := (iE BK135.out 5).trans rfl
                  have hcz71_6 : wc.cell? ⟨gb135, 6, none⟩ = some (.slice A0_6 l0_6.length c0_6) := (iE BK135.out 6).trans rfl
                  have hcz71_7 : wc.cell? ⟨gb135, 7, none⟩ = some (.int .i64 a0_7) := (iE BK135.out 7).trans rfl
                  have hcz71_8 : wc.cell? ⟨gb135, 8, none⟩ = some (.int .i64 a0_8) := (iE BK135.out 8).trans rfl
                  have hcz71_9 : wc.cell? ⟨gb135, 9, none⟩ = some (.slice A0_9 l0_9.length c0_9) := (iE BK135.out 9).trans rfl
                  have hfz71_0 := iD BK135.out 0
                  have hfz71_1 := iD BK135.out 1
                  have hfz71_2 := iD BK135.out 2
                  have hfz71_3 := iD BK135.out 3
                  have hfz71_4 := iD BK135.out 4
                  have hfz71_5 := iD BK135.out 5
                  have hfz71_6 := iD BK135.out 6
                  have hfz71_7 := iD BK135.out 7
                  have hfz71_8 := iD BK135.out 8
                  have hfz71_9 := iD BK135.out 9
                  go_wp2_with (first | ((with_reducible refine jS (f := 68) rfl ?_); refine lV (some 47) rfl rfl Tryd.func68 (by kernel_rfl) rfl #[.agg #[.int .u8 a0_0, .int .u32 a0_1, .int .u32 a0_2, .slice A0_3 l0_3.length c0_3, .slice A0_4 l0_4.length c0_4, .int .u32 a0_5, .slice A0_6 l0_6.length c0_6, .int .i64 a0_7, .int .i64 a0_8, .slice A0_9 l0_9.length c0_9], .string (⟨#[73, 82]⟩ : ByteArray)] rfl (by (try simp only [List.map_toArray, List.map_cons, List.map_nil]); first | done | rfl | (simp only [List.length_drop, List.length_take]; rfl)) ?_; (with_reducible refine (stratumref07_bare.calls a0_0 a0_1 a0_2 _ _ l0_3 _ _ l0_4 a0_5 _ _ l0_6 a0_7 a0_8 _ _ l0_9 (⟨#[73, 82]⟩ : ByteArray) false _ ?side1 ?side2 ?side3 ?side4 ?side5 ?side6 ?side7 ?side8 A49.out).mono ?_); (case side1 => repeat (first | exact (Kd.C_below HR0_3.out HB.out) | (with_reducible refine Kd.C_alloc ?_ _) | (with_reducible refine Kd.C_drewN ?_ _) | (with_reducible refine Kd.C_drew ?_))); (case side2 => exact HC0_3.out); (case side3 => repeat (first | exact (Kd.C_below HR0_4.out HB.out) | (with_reducible refine Kd.C_alloc ?_ _) | (with_reducible refine Kd.C_drewN ?_ _) | (with_reducible refine Kd.C_drew ?_))); (case side4 => exact HC0_4.out); (case side5 => repeat (first | exact (Kd.C_below HR0_6.out HB.out) | (with_reducible refine Kd.C_alloc ?_ _) | (with_reducible refine Kd.C_drewN ?_ _) | (with_reducible refine Kd.C_drew ?_))); (case side6 => exact HC0_6.out); (case side7 => repeat (first | exact (Kd.C_below HR0_9.out HB.out) | (with_reducible refine Kd.C_alloc ?_ _) | (with_reducible refine Kd.C_drewN ?_ _) | (with_reducible refine Kd.C_drew ?_))); (case side8 => exact HC0_9.out); rintro e w72 ⟨rfl, hb⟩; refine ⟨_, rfl, ?_⟩; have n0_ := iC.mk (jX (g := gb135) (o := .cells #[.int .u8 a0_0, .int .u32 a0_1, .int .u32 a0_2, .slice A0_3 l0_3.length c0_3, .slice A0_4 l0_4.length c0_4, .int .u32 a0_5, .slice A0_6 l0_6.length c0_6, .int .i64 a0_7, .int .i64 a0_8, .slice A0_9 l0_9.length c0_9] 30 (0, 0)) (bk_ BK135.out) hb); have n1_ := iC.mk (iI (by repeat (first | (with_reducible first | exact HB.out | apply iF | apply iG | apply iJ | refine iM ?_ GE135.out) | exact HB.out)) hb); clear BK135; clear HB; have BK135 := n0_; have HB := n1_; clear n0_ n1_; (try clear hb); (try clear hb2); (try clear hk); (try clear hi)))
                  go_ret
                  exact ⟨by first | rfl | (simp [iT, iU] <;> rfl) | (simp [*, iT, iU] <;> rfl), by repeat (first | (with_reducible first | exact HB.out | apply iF | apply iG | apply iJ | refine iM ?_ GE135.out) | exact HB.out)⟩
              · rw [if_neg c48] at H
                have c48b0 : (a0_0 == 7) = false := beq_eq_false_iff_ne.mpr c48
                have c48b1 : (a0_0 != 7) = true := bne_iff_ne.mpr c48
                obtain rfl := Option.some.inj H
                go_wp2
                go_ret
                exact ⟨by first | rfl | (simp [iT, iU] <;> rfl) | (simp [*, iT, iU] <;> rfl), by repeat (first | (with_reducible first | exact HB.out | apply iF | apply iG | apply iJ | refine iM ?_ GE135.out) | exact HB.out)⟩
end Go.Proofs.YtgfkgppomaapiaaDoor.K
end

section
namespace Go.Proofs.YtgfkgppomaapiaaDoor.K
open RowKit YtgfkgppomaapiaaDoorW.PrintWords YtgfkgppomaapiaaDoorW.PrintLast YtgfkgppomaapiaaDoorW.PrintMore My
theorem qM {α : Type} (d : α) (l : List α) (i : Int) (h : i.toNat < l.length) (h0 : 0 ≤ i) : l.drop i.toNat = l.getD i.toNat d :: l.drop (i + 1).toNat := by
  rw [List.drop_eq_getElem_cons h, show (i + 1).toNat = i.toNat + 1 by omega]
  congr 1
  rw [List.getD_eq_getElem?_getD, List.getElem?_eq_getElem h]
  rfl
theorem drop_end {α : Type} (l : List α) (i : Int) (h : ¬ i < (l.length : Int)) : l.drop i.toNat = [] := List.drop_of_length_le (by omega)
def yR (l : List Int) (i : Int) : Int := if 0 < i then rd l (i - 1) else -1
theorem PG (l : List Int) (hn : l.length ≤ 9223372036854775807) (d : Nat) : ∀ i : Int, 0 ≤ i → i ≤ l.length → (l.length : Int) - i = d → -1 ≤ yR l i → Ev (fun k => stratumref07_SoundNodes.l0 k l i) (kY (yR l i) (l.drop i.toNat)) := by
  induction d with
  | zero =>
    intro i h0 h1 hd hp
    refine Ev.step (f := fun _ => some true) (fun k => by simp only [stratumref07_SoundNodes.l0]; rw [if_neg (by omega)]) ?_
    rw [drop_end l i (by omega)]
    exact Ev.now _
  | succ d ih =>
    intro i h0 h1 hd hp
    have hlt : i < (l.length : Int) := by omega
    have hnext : yR l (i + 1) = rd l i := by unfold yR; rw [if_pos (by omega), show i + 1 - 1 = i by omega]
    rw [qM 0 l i (by omega) h0, kY, show l.getD i.toNat 0 = rd l i from rfl]
    by_cases c1 : rd l i < 0
    · refine Ev.step (f := fun _ => some false) (fun k => by simp only [stratumref07_SoundNodes.l0]; rw [if_pos hlt, if_pos h0, if_pos c1]) ?_
      rw [decide_eq_false (show ¬ yR l i < rd l i by omega)]
      exact Ev.now _
    by_cases c2 : rd l i > 5
    · refine Ev.step (f := fun _ => some false) (fun k => by simp only [stratumref07_SoundNodes.l0]; rw [if_pos hlt, if_pos h0, if_neg c1, if_pos c2]) ?_
      rw [decide_eq_false (show ¬ rd l i < 6 by omega), Bool.and_false]
      exact Ev.now _
    rw [decide_eq_true (show rd l i < 6 by omega), Bool.and_true]
    have hih := ih (i + 1) (by omega) (by omega) (by omega) (by rw [hnext]; omega)
    rw [hnext] at hih
    have hw := nM h0 hlt hn
    by_cases c3 : 0 < i
    · have hw2 : wrap64 (i - 1) = i - 1 := by unfold wrap64; omega
      have hpi : yR l i = rd l (i - 1) := by unfold yR; rw [if_pos c3]
      rw [hpi]
      by_cases c4 : rd l i ≤ rd l (i - 1)
      · refine Ev.step (f := fun _ => some false) (fun k => by simp only [stratumref07_SoundNodes.l0]; rw [if_pos hlt, if_pos h0, if_neg c1, if_neg c2, if_pos c3, hw2, if_pos (by omega), if_pos (by omega), if_pos c4]) ?_
        rw [decide_eq_false (show ¬ rd l (i - 1) < rd l i by omega)]
        exact Ev.now _
      · refine Ev.step (f := fun k => stratumref07_SoundNodes.l0 k l (i + 1)) (fun k => by simp only [stratumref07_SoundNodes.l0]; rw [if_pos hlt, if_pos h0, if_neg c1, if_neg c2, if_pos c3, hw2, if_pos (by omega), if_pos (by omega), if_neg c4, hw]) ?_
        rw [decide_eq_true (show rd l (i - 1) < rd l i by omega), Bool.true_and]
        exact hih
    · refine Ev.step (f := fun k => stratumref07_SoundNodes.l0 k l (i + 1)) (fun k => by simp only [stratumref07_SoundNodes.l0]; rw [if_pos hlt, if_pos h0, if_neg c1, if_neg c2, if_neg c3, hw]) ?_
      have hpi : yR l i = -1 := by unfold yR; rw [if_neg c3]
      rw [hpi, decide_eq_true (show (-1 : Int) < rd l i by omega), Bool.true_and]
      exact hih
theorem IQ (l : List Int) (hn : l.length ≤ 9223372036854775807) : Ev (fun k => stratumref07_SoundNodes.f k l) (kY (-1) l) :=
  PG l hn l.length 0 (by omega) (by omega) (by omega) (by unfold yR; rw [if_neg (by omega)]; omega)
def okV (v : Int) : Bool := decide (0 ≤ v) && decide (v ≤ 9999)
theorem QN (f : jO) : nV f = (f.f0.all okV && decide ((f.f0.length : Int) ≤ 4)) := by
  unfold nV
  rw [show decide (f.f0.length ≤ 4) = decide ((f.f0.length : Int) ≤ 4) from by rw [decide_eq_decide]; omega, Bool.and_comm]
  rfl
theorem VM (l : List jO) (i : Int) (h0 : 0 ≤ i) (hlt : i < l.length) (hn : l.length ≤ 9223372036854775807) (hk : (iQ l i).f0.length ≤ 9223372036854775807) (R : Bool) (hR : Ev (fun k => stratumref07_SoundFacts.l0 k l (i + 1)) R) (d : Nat) : ∀ j : Int, 0 ≤ j → j ≤ (iQ l i).f0.length → ((iQ l i).f0.length : Int) - j = d →
    Ev (fun k => stratumref07_SoundFacts.l1 k l i j) (((iQ l i).f0.drop j.toNat).all okV && decide (((iQ l i).f0.length : Int) ≤ 4) && R) := by
  induction d with
  | zero =>
    intro j g0 g1 hd
    rw [drop_end _ j (by omega), List.all_nil, Bool.true_and]
    by_cases c1 : ((iQ l i).f0.length : Int) > 4
    · refine Ev.step (f := fun _ => some false) (fun k => by simp only [stratumref07_SoundFacts.l1]; rw [if_pos h0, if_pos hlt, if_neg (by omega), if_pos c1]) ?_
      rw [decide_eq_false (by omega)]
      exact Ev.now _
    · refine Ev.step (f := fun k => stratumref07_SoundFacts.l0 k l (i + 1)) (fun k => by simp only [stratumref07_SoundFacts.l1]; rw [if_pos h0, if_pos hlt, if_neg (by omega), if_neg c1, nM h0 hlt hn]) ?_
      rw [decide_eq_true (by omega), Bool.true_and]
      exact hR
  | succ d ih =>
    intro j g0 g1 hd
    have hj : j < ((iQ l i).f0.length : Int) := by omega
    rw [qM 0 _ j (by omega) g0, List.all_cons, show (iQ l i).f0.getD j.toNat 0 = rd (iQ l i).f0 j from rfl]
    by_cases c1 : rd (iQ l i).f0 j < 0
    · refine Ev.step (f := fun _ => some false) (fun k => by simp only [stratumref07_SoundFacts.l1]; rw [if_pos h0, if_pos hlt, if_pos hj, if_pos g0, if_pos c1]) ?_
      unfold okV
      rw [decide_eq_false (by omega)]
      exact Ev.now _
    by_cases c2 : rd (iQ l i).f0 j > 9999
    · refine Ev.step (f := fun _ => some false) (fun k => by simp only [stratumref07_SoundFacts.l1]; rw [if_pos h0, if_pos hlt, if_pos hj, if_pos g0, if_neg c1, if_pos c2]) ?_
      unfold okV
      rw [decide_eq_false (show ¬ rd (iQ l i).f0 j ≤ 9999 by omega), Bool.and_false]
      exact Ev.now _
    refine Ev.step (f := fun k => stratumref07_SoundFacts.l1 k l i (j + 1)) (fun k => by simp only [stratumref07_SoundFacts.l1]; rw [if_pos h0, if_pos hlt, if_pos hj, if_pos g0, if_neg c1, if_neg c2, nM g0 hj hk]) ?_
    rw [show okV (rd (iQ l i).f0 j) = true from by unfold okV; simp; omega, Bool.true_and]
    exact ih (j + 1) (by omega) (by omega) (by omega)
theorem PE (l : List jO) (hn : l.length ≤ 9223372036854775807) (hk : ∀ f ∈ l, f.f0.length ≤ 9223372036854775807) (d : Nat) : ∀ i : Int, 0 ≤ i → i ≤ l.length → (l.length : Int) - i = d →
    Ev (fun k => stratumref07_SoundFacts.l0 k l i) ((l.drop i.toNat).all nV && decide ((l.length : Int) ≤ 200)) := by
  induction d with
  | zero =>
    intro i h0 h1 hd
    rw [drop_end _ i (by omega), List.all_nil, Bool.true_and]
    exact Ev.step (f := fun _ => some (decide ((l.length : Int) ≤ 200))) (fun k => by simp only [stratumref07_SoundFacts.l0]; rw [if_neg (by omega)]) (Ev.now _)
  | succ d ih =>
    intro i h0 h1 hd
    have hlt : i < (l.length : Int) := by omega
    refine Ev.step (f := fun k => stratumref07_SoundFacts.l1 k l i 0) (fun k => by simp only [stratumref07_SoundFacts.l0]; rw [if_pos hlt]) ?_
    have hm : iQ l i ∈ l := by
      unfold iQ
      rw [List.getD_eq_getElem?_getD, List.getElem?_eq_getElem (show i.toNat < l.length by omega)]
      exact List.getElem_mem _
    have := VM l i h0 hlt hn (hk _ hm) _ (ih (i + 1) (by omega) (by omega) (by omega)) (iQ l i).f0.length 0 (by omega) (by omega) (by omega)
    rw [qM z139 l i (by omega) h0, List.all_cons, show l.getD i.toNat z139 = iQ l i from rfl, QN]
    rw [Bool.and_assoc]
    exact this
theorem O5 (l : List jO) : lX l = (l.all nV && decide ((l.length : Int) ≤ 200)) := by
  unfold lX
  rw [show decide (l.length ≤ 200) = decide ((l.length : Int) ≤ 200) from by rw [decide_eq_decide]; omega, Bool.and_comm]
theorem uA (l : List jO) (hn : l.length ≤ 9223372036854775807) (hk : ∀ f ∈ l, f.f0.length ≤ 9223372036854775807) : Ev (fun k => stratumref07_SoundFacts.f k l) (lX l) := by
  rw [O5]
  exact PE l hn hk l.length 0 (by omega) (by omega) (by omega)
theorem QI (l : List kD) (hn : l.length ≤ 9223372036854775807) (d : Nat) : ∀ i : Int, 0 ≤ i → i ≤ l.length → (l.length : Int) - i = d →
    Ev (fun k => stratumref07_spans.l0 k l i) ((l.drop i.toNat).all lU && decide ((l.length : Int) ≤ 40)) := by
  induction d with
  | zero =>
    intro i h0 h1 hd
    rw [drop_end _ i (by omega), List.all_nil, Bool.true_and]
    exact Ev.step (f := fun _ => some (decide ((l.length : Int) ≤ 40))) (fun k => by simp only [stratumref07_spans.l0]; rw [if_neg (by omega)]) (Ev.now _)
  | succ d ih =>
    intro i h0 h1 hd
    have hlt : i < (l.length : Int) := by omega
    rw [qM z98 l i (by omega) h0, List.all_cons, show l.getD i.toNat z98 = kG l i from rfl]
    by_cases c1 : (kG l i).f0 < 0
    · refine Ev.step (f := fun _ => some false) (fun k => by simp only [stratumref07_spans.l0]; rw [if_pos hlt, if_pos h0, if_pos c1]) ?_
      rw [show lU (kG l i) = false from by unfold lU; simp; omega]
      exact Ev.now _
    by_cases c2 : (kG l i).f0 > 9999
    · refine Ev.step (f := fun _ => some false) (fun k => by simp only [stratumref07_spans.l0]; rw [if_pos hlt, if_pos h0, if_neg c1, if_pos c2]) ?_
      rw [show lU (kG l i) = false from by unfold lU; simp; omega]
      exact Ev.now _
    by_cases c3 : (kG l i).f1 < 0
    · refine Ev.step (f := fun _ => some false) (fun k => by simp only [stratumref07_spans.l0]; rw [if_pos hlt, if_pos h0, if_neg c1, if_neg c2, if_pos c3]) ?_
      rw [show lU (kG l i) = false from by unfold lU; simp; omega]
      exact Ev.now _
    by_cases c4 : (kG l i).f1 > 5
    · refine Ev.step (f := fun _ => some false) (fun k => by simp only [stratumref07_spans.l0]; rw [if_pos hlt, if_pos h0, if_neg c1, if_neg c2, if_neg c3, if_pos c4]) ?_
      rw [show lU (kG l i) = false from by unfold lU; simp; omega]
      exact Ev.now _
    refine Ev.step (f := fun k => stratumref07_spans.l0 k l (i + 1)) (fun k => by simp only [stratumref07_spans.l0]; rw [if_pos hlt, if_pos h0, if_neg c1, if_neg c2, if_neg c3, if_neg c4, nM h0 hlt hn]) ?_
    rw [show lU (kG l i) = true from by unfold lU; simp; omega, Bool.true_and]
    exact ih (i + 1) (by omega) (by omega) (by omega)
theorem OU (l : List kD) (hn : l.length ≤ 9223372036854775807) : Ev (fun k => stratumref07_spans.f k l) (l.all lU && decide ((l.length : Int) ≤ 40)) := QI l hn l.length 0 (by omega) (by omega) (by omega)
theorem LJ (l : List jJ) (hn : l.length ≤ 9223372036854775807) (hk : ∀ e ∈ l, e.f1.length ≤ 9223372036854775807 ∧ ∀ f ∈ e.f1, f.f0.length ≤ 9223372036854775807) (d : Nat) : ∀ i : Int, 0 ≤ i → i ≤ l.length → (l.length : Int) - i = d →
    Ev (fun k => stratumref07_SoundEntries.l0 k l i) (mJ (rM l i) (l.drop i.toNat) && decide ((l.length : Int) ≤ 5000)) := by
  induction d with
  | zero =>
    intro i h0 h1 hd
    rw [drop_end _ i (by omega), mJ, Bool.true_and]
    exact Ev.step (f := fun _ => some (decide ((l.length : Int) ≤ 5000))) (fun k => by simp only [stratumref07_SoundEntries.l0]; rw [if_neg (by omega)]) (Ev.now _)
  | succ d ih =>
    intro i h0 h1 hd
    have hlt : i < (l.length : Int) := by omega
    have hm : iR l i ∈ l := by
      unfold iR
      rw [List.getD_eq_getElem?_getD, List.getElem?_eq_getElem (show i.toNat < l.length by omega)]
      exact List.getElem_mem _
    have hnext : rM l (i + 1) = some (iR l i).f0 := by unfold rM; rw [if_pos (by omega), show i + 1 - 1 = i by omega]
    have hih := ih (i + 1) (by omega) (by omega) (by omega)
    rw [hnext] at hih
    have hw := nM h0 hlt hn
    rw [qM z86 l i (by omega) h0, show l.getD i.toNat z86 = iR l i from rfl, pY]
    refine Ev.step (f := fun k => (stratumref07_SoundFacts.f k (iR l i).f1).bind _) (fun k => by simp only [stratumref07_SoundEntries.l0]; rw [if_pos hlt, if_pos h0]) ?_
    refine Ev.bind (uA _ (hk _ hm).1 (hk _ hm).2) ?_
    cases lX (iR l i).f1 with
    | false => exact Ev.now _
    | true =>
      simp only [if_true, Bool.true_and]
      rw [hw]
      by_cases c3 : i > 0
      · have hw2 : wrap64 (i - 1) = i - 1 := by unfold wrap64; omega
        unfold rM gapB
        rw [if_pos (show 0 < i from c3)]
        simp only
        by_cases c4 : (iR l i).f0 ≤ (iR l (i - 1)).f0
        · refine Ev.congr (f := fun _ => some false) (fun k => by rw [if_pos c3, hw2, if_pos (show 0 ≤ i - 1 by omega), if_pos (show i - 1 < (l.length : Int) by omega), if_pos c4]) ?_
          rw [decide_eq_false (show ¬ (iR l (i - 1)).f0 < (iR l i).f0 by omega)]
          exact Ev.now _
        · refine Ev.congr (f := fun k => stratumref07_SoundEntries.l0 k l (i + 1)) (fun k => by rw [if_pos c3, hw2, if_pos (show 0 ≤ i - 1 by omega), if_pos (show i - 1 < (l.length : Int) by omega), if_neg c4]) ?_
          rw [decide_eq_true (show (iR l (i - 1)).f0 < (iR l i).f0 by omega), Bool.true_and]
          exact hih
      · refine Ev.congr (f := fun k => stratumref07_SoundEntries.l0 k l (i + 1)) (fun k => by rw [if_neg c3]) ?_
        unfold rM gapB
        rw [if_neg (show ¬ 0 < i from c3)]
        simp only [Bool.true_and]
        exact hih
theorem xU (l : List jJ) (hn : l.length ≤ 9223372036854775807) (hk : ∀ e ∈ l, e.f1.length ≤ 9223372036854775807 ∧ ∀ f ∈ e.f1, f.f0.length ≤ 9223372036854775807) : Ev (fun k => stratumref07_SoundEntries.f k l) (mD l && decide ((l.length : Int) ≤ 5000)) :=
  LJ l hn hk l.length 0 (by omega) (by omega) (by omega)
structure QW (l3 : List Int) (l4 : List jO) (l6 : List kD) (l9 : List jJ) : Prop where
  n3 : l3.length ≤ 9223372036854775807
  n4 : l4.length ≤ 9223372036854775807
  f4 : ∀ f ∈ l4, f.f0.length ≤ 9223372036854775807
  n6 : l6.length ≤ 9223372036854775807
  n9 : l9.length ≤ 9223372036854775807
  f9 : ∀ e ∈ l9, e.f1.length ≤ 9223372036854775807 ∧ ∀ f ∈ e.f1, f.f0.length ≤ 9223372036854775807
theorem qI (a0 a1 a2 : Int) (l3 : List Int) (l4 : List jO) (a5 : Int) (l6 : List kD) (a7 a8 : Int) (l9 : List jJ) (s : List UInt8) (hs : s.length < 100) : stratumref07_bare.f a0 a1 a2 l3 l4 a5 l6 a7 a8 l9 (⟨s.toArray⟩ : ByteArray) = some (vX a1 a2 l3 l4 a5 l6 a7 a8 l9 s) := by
  unfold stratumref07_bare.f
  rw [if_pos (show (((⟨s.toArray⟩ : ByteArray).size : Nat) : Int) ≤ 9223372036854775807 from by show ((s.toArray.size : Nat) : Int) ≤ _; simp; omega)]
theorem lenb {α : Type} (l : List α) : ((l.length : Int) == 0) = l.isEmpty := by
  cases l with
  | nil => rfl
  | cons x l => simp; omega
theorem zO {g : Nat → Option Bool} {b : Bool} (B : Bool) (h : Ev g b) : Ev (fun k => if B = true then g k else some false) (B && b) := by
  cases B with
  | false => exact Ev.now _
  | true => exact h
theorem VY {g : Nat → Option Bool} {b : Bool} (h : Ev g b) : Ev (fun k => (g k).bind fun t => some t) b := h.congr (fun k => by cases g k <;> rfl)
theorem oH (a0 a1 a2 : Int) (l3 : List Int) (l4 : List jO) (a5 : Int) (l6 : List kD) (a7 a8 : Int) (l9 : List jJ) (h : QW l3 l4 l6 l9) :
    Ev (fun k => stratumref07_Sound.f k a0 a1 a2 l3 l4 a5 l6 a7 a8 l9) (jM ⟨a0, a1, a2, l3, l4, ⟨a5, l6⟩, a7, a8, l9⟩) := by
  have e1 := qI a0 a1 a2 l3 l4 a5 l6 a7 a8 l9 [73, 78, 70] (by decide)
  have e2 := qI a0 a1 a2 l3 l4 a5 l6 a7 a8 l9 [73, 65, 78] (by decide)
  have e3 := qI a0 a1 a2 l3 l4 a5 l6 a7 a8 l9 [73] (by decide)
  have e4 := qI a0 a1 a2 l3 l4 a5 l6 a7 a8 l9 [77] (by decide)
  have e5 := qI a0 a1 a2 l3 l4 a5 l6 a7 a8 l9 [73, 82] (by decide)
  have b1 : vX a1 a2 l3 l4 a5 l6 a7 a8 l9 [73, 78, 70] = (a2 == 0 && (a5 == 0 && l6.isEmpty) && (a7 == 0 && a8 == 0 && l9.isEmpty)) := by unfold vX flag; rw [lenb, lenb, lenb, lenb]; simp
  have b2 : vX a1 a2 l3 l4 a5 l6 a7 a8 l9 [73, 65, 78] = (l4.isEmpty && (a5 == 0 && l6.isEmpty) && (a7 == 0 && a8 == 0 && l9.isEmpty)) := by unfold vX flag; rw [lenb, lenb, lenb, lenb]; simp
  have b3 : vX a1 a2 l3 l4 a5 l6 a7 a8 l9 [73] = (a2 == 0 && l3.isEmpty && l4.isEmpty && (a5 == 0 && l6.isEmpty) && (a7 == 0 && a8 == 0 && l9.isEmpty)) := by unfold vX flag; rw [lenb, lenb, lenb, lenb]; simp
  have b4 : vX a1 a2 l3 l4 a5 l6 a7 a8 l9 [77] = (a1 == 0 && a2 == 0 && l3.isEmpty && l4.isEmpty && (a7 == 0 && a8 == 0 && l9.isEmpty)) := by unfold vX flag; rw [lenb, lenb, lenb, lenb]; simp
  have b5 : vX a1 a2 l3 l4 a5 l6 a7 a8 l9 [73, 82] = (a2 == 0 && l3.isEmpty && l4.isEmpty && (a5 == 0 && l6.isEmpty)) := by unfold vX flag; rw [lenb, lenb, lenb, lenb]; simp
  rw [b1] at e1; rw [b2] at e2; rw [b3] at e3; rw [b4] at e4; rw [b5] at e5
  clear b1 b2 b3 b4 b5
  have n3 := IQ l3 h.n3
  have n4 := uA l4 h.n4 h.f4
  have n6 := OU l6 h.n6
  have n9 := xU l9 h.n9 h.f9
  by_cases h1 : a0 = 1
  · have hs : jM ⟨a0, a1, a2, l3, l4, ⟨a5, l6⟩, a7, a8, l9⟩ = ((a2 == 0 && (a5 == 0 && l6.isEmpty) && (a7 == 0 && a8 == 0 && l9.isEmpty)) && (kY (-1) l3 && lX l4)) := by
      unfold jM
      simp only [h1, if_true]
      rw [Bool.eq_iff_iff]
      simp only [Bool.and_eq_true]
      constructor <;> (intro h; simp only [h, and_self])
    rw [hs]
    refine Ev.congr (fun k => by unfold stratumref07_Sound.f; rw [if_pos h1, e1]; rfl) (zO _ (Ev.bind n3 (zO _ (VY n4))))
  by_cases h2 : a0 = 2
  · have hs : jM ⟨a0, a1, a2, l3, l4, ⟨a5, l6⟩, a7, a8, l9⟩ = ((l4.isEmpty && (a5 == 0 && l6.isEmpty) && (a7 == 0 && a8 == 0 && l9.isEmpty)) && kY (-1) l3) := by
      unfold jM
      simp only [h2, if_true, if_false, show ¬ (2 : Int) = 1 from by decide]
      rw [Bool.eq_iff_iff]
      simp only [Bool.and_eq_true]
      constructor <;> (intro h; simp only [h, and_self])
    rw [hs]
    refine Ev.congr (fun k => by unfold stratumref07_Sound.f; rw [if_neg h1, if_pos h2, e2]; rfl) (zO _ (VY n3))
  by_cases h3 : a0 = 3 ∨ a0 = 4 ∨ a0 = 5
  · have hs : jM ⟨a0, a1, a2, l3, l4, ⟨a5, l6⟩, a7, a8, l9⟩ = (a2 == 0 && l3.isEmpty && l4.isEmpty && (a5 == 0 && l6.isEmpty) && (a7 == 0 && a8 == 0 && l9.isEmpty)) := by
      have hd : (decide (a0 = 3) || decide (a0 = 4) || decide (a0 = 5)) = true := by simp; omega
      unfold jM
      simp only [h1, h2, hd, if_true, if_false]
      rw [Bool.eq_iff_iff]
      simp only [Bool.and_eq_true]
      constructor <;> (intro h; simp only [h, and_self])
    rw [hs]
    have hj : Ev (fun k => stratumref07_Sound.j0 k a0 true a0 a1 a2 l3 l4 a5 l6 a7 a8 l9) (a2 == 0 && l3.isEmpty && l4.isEmpty && (a5 == 0 && l6.isEmpty) && (a7 == 0 && a8 == 0 && l9.isEmpty)) :=
      Ev.step (fun k => by simp only [stratumref07_Sound.j0]; rw [if_pos True.intro, e3]; rfl) (Ev.now _)
    rcases h3 with h3 | h3 | h3
    · exact Ev.congr (fun k => by unfold stratumref07_Sound.f; rw [if_neg h1, if_neg h2, if_pos h3, show (a0 == 3) = true from beq_iff_eq.mpr h3]) hj
    · exact Ev.congr (fun k => by unfold stratumref07_Sound.f; rw [if_neg h1, if_neg h2, if_neg (by omega), if_pos h3, show (a0 == 4) = true from beq_iff_eq.mpr h3]) hj
    · exact Ev.congr (fun k => by unfold stratumref07_Sound.f; rw [if_neg h1, if_neg h2, if_neg (by omega), if_neg (by omega), show (a0 == 5) = true from beq_iff_eq.mpr h3]) hj
  have hd : (decide (a0 = 3) || decide (a0 = 4) || decide (a0 = 5)) = false := by simp; omega
  have hj : ∀ {r : Bool} {g : Nat → Option Bool}, (∀ k, stratumref07_Sound.j0 (k + 1) a0 false a0 a1 a2 l3 l4 a5 l6 a7 a8 l9 = g k) → Ev g r → Ev (fun k => stratumref07_Sound.f k a0 a1 a2 l3 l4 a5 l6 a7 a8 l9) r := fun hg h =>
    Ev.congr (fun k => by unfold stratumref07_Sound.f; rw [if_neg h1, if_neg h2, if_neg (by omega), if_neg (by omega), show (a0 == 5) = false from beq_eq_false_iff_ne.mpr (by omega)]) (Ev.step hg h)
  by_cases h6 : a0 = 6
  · have hs : jM ⟨a0, a1, a2, l3, l4, ⟨a5, l6⟩, a7, a8, l9⟩ = ((a1 == 0 && a2 == 0 && l3.isEmpty && l4.isEmpty && (a7 == 0 && a8 == 0 && l9.isEmpty)) && (l6.all lU && decide ((l6.length : Int) ≤ 40))) := by
      unfold jM
      simp only [h1, h2, hd, h6, if_true, if_false, Bool.false_eq_true]
      rw [show decide ((l6.length : Int) ≤ 40) = decide (l6.length ≤ 40) from by rw [decide_eq_decide]; omega]
      simp only [show ¬ (6 : Int) = 1 from by decide, show ¬ (6 : Int) = 2 from by decide, if_false, show (decide ((6 : Int) = 3) || decide ((6 : Int) = 4) || decide ((6 : Int) = 5)) = false from by decide, Bool.false_eq_true]
      rw [Bool.eq_iff_iff]
      simp only [Bool.and_eq_true]
      constructor <;> (intro h; simp only [h, and_self])
    rw [hs]
    exact hj (fun k => by simp only [stratumref07_Sound.j0]; rw [if_neg (by decide), if_pos h6, e4]; rfl) (zO _ (VY n6))
  by_cases h7 : a0 = 7
  · have hs : jM ⟨a0, a1, a2, l3, l4, ⟨a5, l6⟩, a7, a8, l9⟩ = ((a2 == 0 && l3.isEmpty && l4.isEmpty && (a5 == 0 && l6.isEmpty)) && ((mD l9 && decide ((l9.length : Int) ≤ 5000)) && (decide (0 ≤ a7) && decide (a7 ≤ 10000) && decide (0 ≤ a8) && decide (a8 ≤ 10000)))) := by
      unfold jM
      simp only [h7, if_true, if_false, show ¬ (7 : Int) = 1 from by decide, show ¬ (7 : Int) = 2 from by decide, show ¬ (7 : Int) = 6 from by decide, show (decide ((7 : Int) = 3) || decide ((7 : Int) = 4) || decide ((7 : Int) = 5)) = false from by decide, Bool.false_eq_true]
      rw [show decide ((l9.length : Int) ≤ 5000) = decide (l9.length ≤ 5000) from by rw [decide_eq_decide]; omega]
      rw [Bool.eq_iff_iff]
      simp only [Bool.and_eq_true]
      constructor <;> (intro h; simp only [h, and_self])
    rw [hs]
    refine hj (fun k => by simp only [stratumref07_Sound.j0]; rw [if_neg (by decide), if_neg h6, if_pos h7, e5]; rfl) (zO _ (Ev.bind n9 (zO _ ?_)))
    by_cases q1 : a7 ≥ 0
    · by_cases q2 : a7 ≤ 10000
      · by_cases q3 : a8 ≥ 0
        · rw [decide_eq_true (show 0 ≤ a7 from q1), decide_eq_true q2, decide_eq_true (show 0 ≤ a8 from q3), Bool.true_and, Bool.true_and, Bool.true_and]
          exact Ev.congr (fun k => by rw [if_pos q1, if_pos q2, if_pos q3]) (Ev.now _)
        · rw [decide_eq_false (show ¬ 0 ≤ a8 from q3), Bool.and_false, Bool.false_and]
          exact Ev.congr (fun k => by rw [if_pos q1, if_pos q2, if_neg q3]) (Ev.now _)
      · rw [decide_eq_false q2, Bool.and_false, Bool.false_and, Bool.false_and]
        exact Ev.congr (fun k => by rw [if_pos q1, if_neg q2]) (Ev.now _)
    · rw [decide_eq_false (show ¬ 0 ≤ a7 from q1), Bool.false_and, Bool.false_and, Bool.false_and]
      exact Ev.congr (fun k => by rw [if_neg q1]) (Ev.now _)
  · have hs : jM ⟨a0, a1, a2, l3, l4, ⟨a5, l6⟩, a7, a8, l9⟩ = false := by
      unfold jM
      simp only [h1, h2, hd, h6, h7, if_false, Bool.false_eq_true]
    rw [hs]
    exact hj (fun k => by simp only [stratumref07_Sound.j0]; rw [if_neg (by decide), if_neg h6, if_neg h7]) (Ev.now _)
end Go.Proofs.YtgfkgppomaapiaaDoor.K
end

section
namespace Go.Proofs.YtgfkgppomaapiaaDoor.K
open Go.RowKit Go.Proofs.YtgfkgppomaapiaaDoorW.PrintWords Go.Proofs.YtgfkgppomaapiaaDoorW.PrintLast Go.Proofs.YtgfkgppomaapiaaDoorW.PrintMore
attribute [local go_sem] kH kS
def stratumref07_Put.l0 : Nat → List Int → Int → Int → Option (List Int)
  | 0, _, _, _ => none
  | k + 1, x0, x1, x7 => if x7 ≥ 0 then (if 0 ≤ (IntKind.u64.wrap (8 * (IntKind.u64.wrap (x7)))) then (if x0.length < 140737488355328 then (stratumref07_Put.l0 k (x0 ++ [(shr .u64 x1 (IntKind.u64.wrap (8 * (IntKind.u64.wrap (x7))))) % 256]) x1 (wrap64 (x7 - 1))) else (none)) else (none)) else (some x0)
def stratumref07_Put.f (k : Nat) (l0 : List Int) (a1 : Int) (a2 : Int) : Option (List Int) := stratumref07_Put.l0 k l0 a1 (wrap64 (a2 - 1))
set_option maxHeartbeats 8000000 in
set_option maxRecDepth 100000 in
theorem stratumref07_Put.calls (k : Nat) (P0_ : Nat → Prop) (u9000_ : Value) (l0 : List Int) (a1 : Int) (a2 : Int) (r : List Int) (w0 w : World) (hB : Below w0.heap.size w0 w) (ho0 : Kd.R (Kd.int .u8) 5 w w0.heap.size P0_ u9000_ l0) (h : stratumref07_Put.f k l0 a1 a2 = some r) :
    Calls Tryd.prog 57 #[u9000_, .int .u64 a1, .int .i64 a2] w fun e w' => ∃ v0_ : Value, e = .returned (v0_) ∧ Kd.R (Kd.int .u8) 5 w' w0.heap.size (fun k_ => (P0_ k_ ∨ w.heap.size ≤ k_)) v0_ r ∧ Below w0.heap.size w0 w' ∧ Kept w w' (fun k_ => P0_ k_) := by
  have HO0 := iC.mk (show Kd.R (Kd.int .u8) 5 w w0.heap.size (fun k_ => (P0_ k_ ∨ w.heap.size ≤ k_)) u9000_ l0 from Kd.R_mono ho0 (fun k_ hk => (.inl hk)))
  have HK := iC.mk (Kept.refl w (fun k_ => P0_ k_))
  have HW0 := iC.mk hB.size
  have HB := iC.mk hB
  clear hB
  have H : (stratumref07_Put.l0 k l0 a1 (wrap64 (a2 - 1))) = some r := h
  clear h
  have H' := iC.mk H
  clear H
  go_enter Tryd.func57, Tryd.ntmps57
  go_wp2
  go_loopg [0, 7] k (fun kq v0 v7 w' => ∃ (x0_1 : List Int) (x7_1 : Int), v7 = .int .i64 x7_1 ∧ iC (stratumref07_Put.l0 kq x0_1 a1 x7_1 = some r) ∧ iC (kq ≤ k) ∧ iC (Kd.R (Kd.int .u8) 5 w' w0.heap.size (fun k_ => (P0_ k_ ∨ w.heap.size ≤ k_)) v0 x0_1) ∧ iC (Kept w w' (fun k_ => P0_ k_)) ∧ iC (Below w0.heap.size w0 w'))
  case atStart => exact ⟨(l0), (wrap64 (a2 - 1)), (by first | rfl | (simp; done) | (simp [*]; done)), H', ⟨Nat.le_refl _⟩, ⟨by (with_reducible repeat (first | apply Kd.R_alloc | apply Kd.R_drewN | apply Kd.R_drew)); exact HO0.out⟩, ⟨by repeat (first | (with_reducible first | exact HK.out | apply Kept.alloc | apply Kept.drewN | apply Kept.drew) | exact HK.out)⟩, ⟨hb_⟩⟩
  case round =>
    clear H'
    try clear p2
    obtain ⟨x0_1, x7_1, rfl, HA, HK1, HO_0, HK, HB⟩ := hrel
    cases gk with
    | zero => exact absurd HA.out (by simp [stratumref07_Put.l0])
    | succ k1 =>
      have H := HA.out
      clear HA
      simp only [stratumref07_Put.l0] at H
      by_cases c4 : x7_1 ≥ 0
      · rw [if_pos c4] at H
        have c4b0 : decide (0 ≤ x7_1) = true := decide_eq_true c4
        clear c4
        obtain ⟨ji5, hji5⟩ : ∃ j_ : Int, (IntKind.u64.wrap (8 * (IntKind.u64.wrap (x7_1)))) = j_ := ⟨_, rfl⟩
        replace H : (if 0 ≤ (ji5) then (if x0_1.length < 140737488355328 then (stratumref07_Put.l0 k1 (x0_1 ++ [(shr .u64 a1 (ji5)) % 256]) a1 (wrap64 (x7_1 - 1))) else (none)) else (none)) = some r := by first | (rw [hji5] at H; exact H) | (simp only [hji5] at H ⊢; exact H)
        by_cases c6 : 0 ≤ (ji5)
        · rw [if_pos c6] at H
          have c6b0 := eq_true c6
          have c6b1 : decide (0 ≤ (ji5)) = true := decide_eq_true c6
          clear c6
          obtain ⟨ji7, hji7⟩ : ∃ j_ : Int, (shr .u64 a1 (ji5)) = j_ := ⟨_, rfl⟩
          replace H : (if x0_1.length < 140737488355328 then (stratumref07_Put.l0 k1 (x0_1 ++ [(ji7) % 256]) a1 (wrap64 (x7_1 - 1))) else (none)) = some r := by first | (rw [hji7] at H; exact H) | (simp only [hji7] at H ⊢; exact H)
          have hji7_ : (a1 / 2 ^ min (ji5).toNat 64) = ji7 := hji7
          have hji7z : (ji5) ≤ 64 → (a1 / 2 ^ (ji5).toNat) = ji7 := JP hji7
          by_cases c8 : x0_1.length < 140737488355328
          · rw [if_pos c8] at H
            have LMc8 := iC.mk c8
            clear c8
            obtain ⟨y146, hy146⟩ : ∃ y_ : List Int, y_ = (x0_1 ++ [(ji7) % 256]) := ⟨_, rfl⟩
            replace H : (stratumref07_Put.l0 k1 y146 a1 (wrap64 (x7_1 - 1))) = some r := by first | (rw [hy146]; with_reducible exact H) | (have H2_ := (Option.bind_some _ _).symm.trans H; rw [hy146]; with_reducible exact H2_) | (have H2_ := (Option.bind_some _ _).symm.trans H; with_reducible exact H2_) | with_reducible exact H | (rw [hy146]; exact H) | exact H
            have Ny146 := iC.mk hy146
            clear hy146
            have H' := iC.mk H
            clear H
            go_wp2_with (first | ((with_reducible refine oD (b := .append) (xs := #[.tmp 14, .tmp 21]) rfl ?_); at_builtin; refine Kd.R_append (Kd.int .u8) (w0 := w0) w0.heap.size rfl (.tmp 14) (.tmp 21) 33 5 (.int .u8 0) 1 rfl Tryd.underlying33 info5 rfl (by decide) (by omega) u0 x0_1 ((ji7) % 256) [.int .u8 ((ji7) % 256)] (fun k_ => (P0_ k_ ∨ w.heap.size ≤ k_)) (fun _ => False) rfl rfl ?aP (fun _ hk => hk.elim) ?aF ?aO ?aB ?aS ?aL ?_; (case aP => exact rfl); (case aB => exact hb_); (case aF => exact (fun k_ hk => (.inr (Nat.le_trans (by first | exact HK.out.1 | exact (show Kept w _ (fun k_ => P0_ k_) from by repeat (first | (with_reducible first | exact HK.out | apply Kept.alloc | apply Kept.drewN | apply Kept.drew) | exact HK.out)).1) hk)))); (case aO => exact (by (with_reducible repeat (first | apply Kd.R_alloc | apply Kd.R_drewN | apply Kd.R_drew)); exact HO_0.out)); (case aS => exact (iW hb_)); (case aL => have := LMc8.out; omega); intro v147 w9 ho hb hg hat; rw [← Ny146.out] at ho; have n0_ := iC.mk (hb); have n1_ := iC.mk (Kept.of_grown (S := (fun k_ => P0_ k_)) hg (by repeat (first | (with_reducible first | exact HK.out | apply Kept.alloc | apply Kept.drewN | apply Kept.drew) | exact HK.out)) (fun k_ e_ => (HO_0.out.1 k_ e_))); have n2_ := iC.mk (ho); clear HB; clear HK; clear HO_0; have HB := n0_; have HK := n1_; have HO148 := n2_; clear n0_ n1_ n2_; clear ho hb hg hat))
            go_roundg k1
            case measure => have := HK1.out; omega
            case rel => exact ⟨(y146), (wrap64 (x7_1 - 1)), (by first | rfl | (simp; done) | (simp [*]; done)), H', ⟨by have := HK1.out; omega⟩, ⟨by (with_reducible repeat (first | apply Kd.R_alloc | apply Kd.R_drewN | apply Kd.R_drew)); exact HO148.out⟩, ⟨by repeat (first | (with_reducible first | exact HK.out | apply Kept.alloc | apply Kept.drewN | apply Kept.drew) | exact HK.out)⟩, ⟨hb_⟩⟩
          · rw [if_neg c8] at H
            exact absurd H (by simp)
        · rw [if_neg c6] at H
          exact absurd H (by simp)
      · rw [if_neg c4] at H
        have c4b0 : decide (0 ≤ x7_1) = false := decide_eq_false c4
        clear c4
        obtain rfl := Option.some.inj H
        go_wp2
        go_ret
        exact ⟨_, by first | rfl | (simp [iT, iU] <;> rfl) | (simp [*, iT, iU] <;> rfl), by (with_reducible repeat (first | apply Kd.R_alloc | apply Kd.R_drewN | apply Kd.R_drew)); exact HO_0.out, hb_, by repeat (first | (with_reducible first | exact HK.out | apply Kept.alloc | apply Kept.drewN | apply Kept.drew) | exact HK.out)⟩
end Go.Proofs.YtgfkgppomaapiaaDoor.K
end

section
namespace Go.Proofs.YtgfkgppomaapiaaDoor.K
open Go.RowKit Go.Proofs.YtgfkgppomaapiaaDoorW.PrintWords Go.Proofs.YtgfkgppomaapiaaDoorW.PrintLast Go.Proofs.YtgfkgppomaapiaaDoorW.PrintMore
attribute [local go_sem] kH kS
def stratumref07_Nodes.l0 : Nat → List Int → List Int → Int → Option (List Int)
  | 0, _, _, _ => none
  | k + 1, x0, x1, x5 => if x5 < (x1.length : Int) then (if 0 ≤ x5 then ((stratumref07_Put.f k x0 (IntKind.u64.wrap (rd x1 x5)) 1).bind fun t153 => (stratumref07_Nodes.l0 k t153 x1 (wrap64 (x5 + 1)))) else (none)) else (some x0)
def stratumref07_Nodes.f (k : Nat) (l0 : List Int) (l1 : List Int) : Option (List Int) := (stratumref07_Put.f k l0 (IntKind.u64.wrap ((l1.length : Int))) 1).bind fun t149 => (stratumref07_Nodes.l0 k t149 l1 0)
set_option maxHeartbeats 8000000 in
set_option maxRecDepth 100000 in
theorem stratumref07_Nodes.calls (k : Nat) (P0_ : Nat → Prop) (u9000_ : Value) (l0 : List Int) (A1 : Option Addr) (c1 : Nat) (l1 : List Int) (r : List Int) (w0 w : World) (hB : Below w0.heap.size w0 w) (ho0 : Kd.R (Kd.int .u8) 5 w w0.heap.size P0_ u9000_ l0) (hr1 : ∀ W_, Kept w W_ (fun k_ => P0_ k_) → Kd.C (Kd.int .i64) W_ A1 l1.length l1) (hc1 : l1.length ≤ c1) (h : stratumref07_Nodes.f k l0 l1 = some r) :
    Calls Tryd.prog 58 #[u9000_, .slice A1 l1.length c1] w fun e w' => ∃ v0_ : Value, e = .returned (v0_) ∧ Kd.R (Kd.int .u8) 5 w' w0.heap.size (fun k_ => (P0_ k_ ∨ w.heap.size ≤ k_)) v0_ r ∧ Below w0.heap.size w0 w' ∧ Kept w w' (fun k_ => P0_ k_) := by
  have HO0 := iC.mk (show Kd.R (Kd.int .u8) 5 w w0.heap.size (fun k_ => (P0_ k_ ∨ w.heap.size ≤ k_)) u9000_ l0 from Kd.R_mono ho0 (fun k_ hk => (.inl hk)))
  have HR1 := iC.mk hr1
  have HC1 := iC.mk hc1
  clear hr1 hc1
  have HK := iC.mk (Kept.refl w (fun k_ => P0_ k_))
  have HW0 := iC.mk hB.size
  have HB := iC.mk hB
  clear hB
  have H : ((stratumref07_Put.f k l0 (IntKind.u64.wrap ((l1.length : Int))) 1).bind fun t149 => (stratumref07_Nodes.l0 k t149 l1 0)) = some r := h
  clear h
  replace H := Option.bind_eq_some_iff.mp H
  obtain ⟨t149, A30, H⟩ := H
  replace H : (stratumref07_Nodes.l0 k t149 l1 0) = some r := H
  have A3 := iC.mk A30
  clear A30
  have H' := iC.mk H
  clear H
  obtain ⟨Ao4, co4, eo4⟩ := Kd.R_slice HO0.out
  subst eo4
  go_enter Tryd.func58, Tryd.ntmps58
  go_wp2_with (first | ((with_reducible refine jS (f := 57) rfl ?_); refine lV (some 10) rfl rfl Tryd.func57 (by kernel_rfl) rfl #[.slice Ao4 l0.length co4, .int .u64 (IntKind.u64.wrap ((l1.length : Int))), .int .i64 1] rfl (by (try simp only [List.map_toArray, List.map_cons, List.map_nil]); first | done | rfl | (simp only [List.length_drop, List.length_take]; rfl)) ?_; (with_reducible refine (stratumref07_Put.calls k (fun k_ => some k_ = (.slice Ao4 l0.length co4 : Value).ownBlock) (.slice Ao4 l0.length co4) l0 (IntKind.u64.wrap ((l1.length : Int))) 1 t149 w0 _ ?side1 ?side2 A3.out).mono ?_); (case side1 => repeat (first | (with_reducible first | exact HB.out | apply iF | apply iG | apply iJ) | exact HB.out)); (case side2 => exact Kd.R_tight rfl HO0.out); rintro e w5 ⟨v150, rfl, ho0, hb, hkp⟩; refine ⟨_, rfl, ?_⟩; have n0_ := iC.mk (Kd.R_mono (ok' := fun k_ => (P0_ k_ ∨ w.heap.size ≤ k_)) ho0 (fun k_ hk_ => Or.elim hk_ (fun hs_ => (HO0.out.1 k_ (hs_).symm)) (fun hn_ => (.inr (Nat.le_trans (by first | exact HK.out.1 | exact (show Kept w _ (fun k_ => P0_ k_) from by repeat (first | (with_reducible first | exact HK.out | apply Kept.alloc | apply Kept.drewN | apply Kept.drew) | exact HK.out)).1) hn_))))); have n1_ := iC.mk (Kept.then_ (S := (fun k_ => P0_ k_)) (by repeat (first | (with_reducible first | exact HK.out | apply Kept.alloc | apply Kept.drewN | apply Kept.drew) | exact HK.out)) hkp (fun k_ hs_ => (fun e_ => (HO0.out.1 k_ e_.symm)) hs_)); have n2_ := iC.mk (hb); clear HK; clear HB; clear HO0; have HO151 := n0_; have HK := n1_; have HB := n2_; clear n0_ n1_ n2_; (try clear hb); (try clear hkp); (try clear ho0)))
  go_loopg [0, 5] k (fun kq v0 v5 w' => ∃ (x0_1 : List Int) (x5_1 : Int), v5 = .int .i64 x5_1 ∧ iC (stratumref07_Nodes.l0 kq x0_1 l1 x5_1 = some r) ∧ iC (kq ≤ k) ∧ iC (Kd.R (Kd.int .u8) 5 w' w0.heap.size (fun k_ => (P0_ k_ ∨ w.heap.size ≤ k_)) v0 x0_1) ∧ iC (Kept w w' (fun k_ => P0_ k_)) ∧ iC (Below w0.heap.size w0 w'))
  case atStart => exact ⟨(t149), (0), (by first | rfl | (simp; done) | (simp [*]; done)), H', ⟨Nat.le_refl _⟩, ⟨by (with_reducible repeat (first | apply Kd.R_alloc | apply Kd.R_drewN | apply Kd.R_drew)); exact HO151.out⟩, ⟨by repeat (first | (with_reducible first | exact HK.out | apply Kept.alloc | apply Kept.drewN | apply Kept.drew) | exact HK.out)⟩, ⟨hb_⟩⟩
  case round =>
    clear H'
    try clear c1
    try clear p2
    try clear c5
    obtain ⟨x0_1, x5_1, rfl, HA, HK1, HO_0, HK, HB⟩ := hrel
    cases gk with
    | zero => exact absurd HA.out (by simp [stratumref07_Nodes.l0])
    | succ k1 =>
      have H := HA.out
      clear HA
      simp only [stratumref07_Nodes.l0] at H
      by_cases c6 : x5_1 < (l1.length : Int)
      · rw [if_pos c6] at H
        have c6b0 : decide (x5_1 < (l1.length : Int)) = true := decide_eq_true c6
        clear c6
        by_cases c7 : 0 ≤ x5_1
        · rw [if_pos c7] at H
          have c7b0 : decide (0 ≤ x5_1) = true := decide_eq_true c7
          clear c7
          replace H := Option.bind_eq_some_iff.mp H
          obtain ⟨t153, A80, H⟩ := H
          replace H : (stratumref07_Nodes.l0 k1 t153 l1 (wrap64 (x5_1 + 1))) = some r := H
          have A8 := iC.mk A80
          clear A80
          have H' := iC.mk H
          clear H
          have p152 : 0 ≤ (x5_1 : Int) := of_decide_eq_true asm_
          have q152 : x5_1 < (l1.length : Int) := of_decide_eq_true asm_
          obtain ⟨ad152, e152, hx152_0⟩ := Kd.at_int (Kd.C_kept_now HR1.out HK.out) x5_1 p152 q152
          cases e152
          replace p152 := eq_true p152
          replace q152 := eq_true q152
          obtain ⟨Ao9, co9, eo9⟩ := Kd.R_slice HO_0.out
          subst eo9
          go_wp2_with (first | ((with_reducible refine jS (f := 57) rfl ?_); refine lV (some 23) rfl rfl Tryd.func57 (by kernel_rfl) rfl #[.slice Ao9 x0_1.length co9, .int .u64 (IntKind.u64.wrap (rd l1 x5_1)), .int .i64 1] rfl (by (try simp only [List.map_toArray, List.map_cons, List.map_nil]); first | done | rfl | (simp only [List.length_drop, List.length_take]; rfl)) ?_; (with_reducible refine (stratumref07_Put.calls k1 (fun k_ => some k_ = (.slice Ao9 x0_1.length co9 : Value).ownBlock) (.slice Ao9 x0_1.length co9) x0_1 (IntKind.u64.wrap (rd l1 x5_1)) 1 t153 w0 _ ?side1 ?side2 A8.out).mono ?_); (case side1 => repeat (first | (with_reducible first | exact HB.out | apply iF | apply iG | apply iJ) | exact HB.out)); (case side2 => exact Kd.R_tight rfl HO_0.out); rintro e w10 ⟨v154, rfl, ho0, hb, hkp⟩; refine ⟨_, rfl, ?_⟩; have n0_ := iC.mk (Kd.R_mono (ok' := fun k_ => (P0_ k_ ∨ w.heap.size ≤ k_)) ho0 (fun k_ hk_ => Or.elim hk_ (fun hs_ => (HO_0.out.1 k_ (hs_).symm)) (fun hn_ => (.inr (Nat.le_trans (by first | exact HK.out.1 | exact (show Kept w _ (fun k_ => P0_ k_) from by repeat (first | (with_reducible first | exact HK.out | apply Kept.alloc | apply Kept.drewN | apply Kept.drew) | exact HK.out)).1) hn_))))); have n1_ := iC.mk (Kept.then_ (S := (fun k_ => P0_ k_)) (by repeat (first | (with_reducible first | exact HK.out | apply Kept.alloc | apply Kept.drewN | apply Kept.drew) | exact HK.out)) hkp (fun k_ hs_ => (fun e_ => (HO_0.out.1 k_ e_.symm)) hs_)); have n2_ := iC.mk (hb); clear HK; clear HB; clear HO_0; have HO155 := n0_; have HK := n1_; have HB := n2_; clear n0_ n1_ n2_; (try clear hb); (try clear hkp); (try clear ho0)))
          go_roundg k1
          case measure => have := HK1.out; omega
          case rel => exact ⟨(t153), (wrap64 (x5_1 + 1)), (by first | rfl | (simp; done) | (simp [*]; done)), H', ⟨by have := HK1.out; omega⟩, ⟨by (with_reducible repeat (first | apply Kd.R_alloc | apply Kd.R_drewN | apply Kd.R_drew)); exact HO155.out⟩, ⟨by repeat (first | (with_reducible first | exact HK.out | apply Kept.alloc | apply Kept.drewN | apply Kept.drew) | exact HK.out)⟩, ⟨hb_⟩⟩
        · rw [if_neg c7] at H
          exact absurd H (by simp)
      · rw [if_neg c6] at H
        have c6b0 : decide (x5_1 < (l1.length : Int)) = false := decide_eq_false c6
        clear c6
        obtain rfl := Option.some.inj H
        go_wp2
        go_ret
        exact ⟨_, by first | rfl | (simp [iT, iU] <;> rfl) | (simp [*, iT, iU] <;> rfl), by (with_reducible repeat (first | apply Kd.R_alloc | apply Kd.R_drewN | apply Kd.R_drew)); exact HO_0.out, hb_, by repeat (first | (with_reducible first | exact HK.out | apply Kept.alloc | apply Kept.drewN | apply Kept.drew) | exact HK.out)⟩
end Go.Proofs.YtgfkgppomaapiaaDoor.K
end

section
namespace Go.Proofs.YtgfkgppomaapiaaDoor.K
open Go.RowKit Go.Proofs.YtgfkgppomaapiaaDoorW.PrintWords Go.Proofs.YtgfkgppomaapiaaDoorW.PrintLast Go.Proofs.YtgfkgppomaapiaaDoorW.PrintMore
attribute [local go_sem] kH kS
mutual
def stratumref07_Facts.l0 : Nat → List Int → List (S139) → Int → Option (List Int)
  | 0, _, _, _ => none
  | k + 1, x0, x1, x5 => if x5 < (x1.length : Int) then (if 0 ≤ x5 then ((stratumref07_Put.f k x0 (IntKind.u64.wrap ((((iQ x1 x5).f0).length : Int))) 1).bind fun t160 => (stratumref07_Facts.l1 k t160 x1 x5 0)) else (none)) else (some x0)
def stratumref07_Facts.l1 : Nat → List Int → List (S139) → Int → Int → Option (List Int)
  | 0, _, _, _, _ => none
  | k + 1, x0, x1, x5, x6 => if 0 ≤ x5 then (if x5 < (x1.length : Int) then (if x6 < (((iQ x1 x5).f0).length : Int) then (if 0 ≤ x6 then ((stratumref07_Put.f k x0 (IntKind.u64.wrap (rd ((iQ x1 x5).f0) x6)) 4).bind fun t166 => (stratumref07_Facts.l1 k t166 x1 x5 (wrap64 (x6 + 1)))) else (none)) else ((stratumref07_Put.f k x0 (IntKind.u64.wrap ((iQ x1 x5).f1)) 8).bind fun t170 => (stratumref07_Facts.l0 k t170 x1 (wrap64 (x5 + 1))))) else (none)) else (none)
end
def stratumref07_Facts.f (k : Nat) (l0 : List Int) (l1 : List (S139)) : Option (List Int) := (stratumref07_Put.f k l0 (IntKind.u64.wrap ((l1.length : Int))) 4).bind fun t156 => (stratumref07_Facts.l0 k t156 l1 0)
set_option maxHeartbeats 8000000 in
set_option maxRecDepth 100000 in
theorem stratumref07_Facts.calls (k : Nat) (P0_ : Nat → Prop) (u9000_ : Value) (l0 : List Int) (A1 : Option Addr) (c1 : Nat) (l1 : List (S139)) (r : List Int) (w0 w : World) (hB : Below w0.heap.size w0 w) (ho0 : Kd.R (Kd.int .u8) 5 w w0.heap.size P0_ u9000_ l0) (hr1 : ∀ W_, Kept w W_ (fun k_ => P0_ k_) → Kd.C k139 W_ A1 l1.length l1) (hc1 : l1.length ≤ c1) (h : stratumref07_Facts.f k l0 l1 = some r) :
    Calls Tryd.prog 59 #[u9000_, .slice A1 l1.length c1] w fun e w' => ∃ v0_ : Value, e = .returned (v0_) ∧ Kd.R (Kd.int .u8) 5 w' w0.heap.size (fun k_ => (P0_ k_ ∨ w.heap.size ≤ k_)) v0_ r ∧ Below w0.heap.size w0 w' ∧ Kept w w' (fun k_ => P0_ k_) := by
  have HO0 := iC.mk (show Kd.R (Kd.int .u8) 5 w w0.heap.size (fun k_ => (P0_ k_ ∨ w.heap.size ≤ k_)) u9000_ l0 from Kd.R_mono ho0 (fun k_ hk => (.inl hk)))
  have HR1 := iC.mk hr1
  have HC1 := iC.mk hc1
  clear hr1 hc1
  have HK := iC.mk (Kept.refl w (fun k_ => P0_ k_))
  have HW0 := iC.mk hB.size
  have HB := iC.mk hB
  clear hB
  have H : ((stratumref07_Put.f k l0 (IntKind.u64.wrap ((l1.length : Int))) 4).bind fun t156 => (stratumref07_Facts.l0 k t156 l1 0)) = some r := h
  clear h
  replace H := Option.bind_eq_some_iff.mp H
  obtain ⟨t156, A30, H⟩ := H
  replace H : (stratumref07_Facts.l0 k t156 l1 0) = some r := H
  have A3 := iC.mk A30
  clear A30
  have H' := iC.mk H
  clear H
  obtain ⟨Ao4, co4, eo4⟩ := Kd.R_slice HO0.out
  subst eo4
  go_enter Tryd.func59, Tryd.ntmps59
  go_wp2_with (first | ((with_reducible refine jS (f := 57) rfl ?_); refine lV (some 11) rfl rfl Tryd.func57 (by kernel_rfl) rfl #[.slice Ao4 l0.length co4, .int .u64 (IntKind.u64.wrap ((l1.length : Int))), .int .i64 4] rfl (by (try simp only [List.map_toArray, List.map_cons, List.map_nil]); first | done | rfl | (simp only [List.length_drop, List.length_take]; rfl)) ?_; (with_reducible refine (stratumref07_Put.calls k (fun k_ => some k_ = (.slice Ao4 l0.length co4 : Value).ownBlock) (.slice Ao4 l0.length co4) l0 (IntKind.u64.wrap ((l1.length : Int))) 4 t156 w0 _ ?side1 ?side2 A3.out).mono ?_); (case side1 => repeat (first | (with_reducible first | exact HB.out | apply iF | apply iG | apply iJ) | exact HB.out)); (case side2 => exact Kd.R_tight rfl HO0.out); rintro e w5 ⟨v157, rfl, ho0, hb, hkp⟩; refine ⟨_, rfl, ?_⟩; have n0_ := iC.mk (Kd.R_mono (ok' := fun k_ => (P0_ k_ ∨ w.heap.size ≤ k_)) ho0 (fun k_ hk_ => Or.elim hk_ (fun hs_ => (HO0.out.1 k_ (hs_).symm)) (fun hn_ => (.inr (Nat.le_trans (by first | exact HK.out.1 | exact (show Kept w _ (fun k_ => P0_ k_) from by repeat (first | (with_reducible first | exact HK.out | apply Kept.alloc | apply Kept.drewN | apply Kept.drew) | exact HK.out)).1) hn_))))); have n1_ := iC.mk (Kept.then_ (S := (fun k_ => P0_ k_)) (by repeat (first | (with_reducible first | exact HK.out | apply Kept.alloc | apply Kept.drewN | apply Kept.drew) | exact HK.out)) hkp (fun k_ hs_ => (fun e_ => (HO0.out.1 k_ e_.symm)) hs_)); have n2_ := iC.mk (hb); clear HK; clear HB; clear HO0; have HO158 := n0_; have HK := n1_; have HB := n2_; clear n0_ n1_ n2_; (try clear hb); (try clear hkp); (try clear ho0)))
  go_loopg [0, 5] k (fun kq v0 v5 w' => ∃ (x0_1 : List Int) (x5_1 : Int), v5 = .int .i64 x5_1 ∧ iC (stratumref07_Facts.l0 kq x0_1 l1 x5_1 = some r) ∧ iC (kq ≤ k) ∧ iC (Kd.R (Kd.int .u8) 5 w' w0.heap.size (fun k_ => (P0_ k_ ∨ w.heap.size ≤ k_)) v0 x0_1) ∧ iC (Kept w w' (fun k_ => P0_ k_)) ∧ iC (Below w0.heap.size w0 w'))
  case atStart => exact ⟨(t156), (0), (by first | rfl | (simp; done) | (simp [*]; done)), H', ⟨Nat.le_refl _⟩, ⟨by (with_reducible repeat (first | apply Kd.R_alloc | apply Kd.R_drewN | apply Kd.R_drew)); exact HO158.out⟩, ⟨by repeat (first | (with_reducible first | exact HK.out | apply Kept.alloc | apply Kept.drewN | apply Kept.drew) | exact HK.out)⟩, ⟨hb_⟩⟩
  case round =>
    clear H'
    try clear c1
    try clear p2
    try clear c5
    obtain ⟨x0_1, x5_1, rfl, HA, HK1, HO_0, HK, HB⟩ := hrel
    cases gk with
    | zero => exact absurd HA.out (by simp [stratumref07_Facts.l0])
    | succ k1 =>
      have H := HA.out
      clear HA
      simp only [stratumref07_Facts.l0] at H
      by_cases c6 : x5_1 < (l1.length : Int)
      · rw [if_pos c6] at H
        have c6b0 : decide (x5_1 < (l1.length : Int)) = true := decide_eq_true c6
        clear c6
        by_cases c7 : 0 ≤ x5_1
        · rw [if_pos c7] at H
          have c7b0 : decide (0 ≤ x5_1) = true := decide_eq_true c7
          clear c7
          replace H := Option.bind_eq_some_iff.mp H
          obtain ⟨t160, A80, H⟩ := H
          replace H : (stratumref07_Facts.l1 k1 t160 l1 x5_1 0) = some r := H
          have A8 := iC.mk A80
          clear A80
          have H' := iC.mk H
          clear H
          have p159 : 0 ≤ (x5_1 : Int) := of_decide_eq_true asm_
          have q159 : x5_1 < (l1.length : Int) := of_decide_eq_true asm_
          obtain ⟨ad159, A159_0, c159_0, e159, hx159_0, hx159_1, hl159_0, hi159_0⟩ := kK (Kd.C_kept_now HR1.out HK.out) x5_1 p159 q159
          cases e159
          have HR159_0 := iC.mk hi159_0
          have HC159_0 := iC.mk hl159_0
          clear hi159_0 hl159_0
          replace p159 := eq_true p159
          replace q159 := eq_true q159
          obtain ⟨Ao9, co9, eo9⟩ := Kd.R_slice HO_0.out
          subst eo9
          go_wp2_with (first | ((with_reducible refine jS (f := 57) rfl ?_); refine lV (some 26) rfl rfl Tryd.func57 (by kernel_rfl) rfl #[.slice Ao9 x0_1.length co9, .int .u64 (IntKind.u64.wrap ((((iQ l1 x5_1).f0).length : Int))), .int .i64 1] rfl (by (try simp only [List.map_toArray, List.map_cons, List.map_nil]); first | done | rfl | (simp only [List.length_drop, List.length_take]; rfl)) ?_; (with_reducible refine (stratumref07_Put.calls k1 (fun k_ => some k_ = (.slice Ao9 x0_1.length co9 : Value).ownBlock) (.slice Ao9 x0_1.length co9) x0_1 (IntKind.u64.wrap ((((iQ l1 x5_1).f0).length : Int))) 1 t160 w0 _ ?side1 ?side2 A8.out).mono ?_); (case side1 => repeat (first | (with_reducible first | exact HB.out | apply iF | apply iG | apply iJ) | exact HB.out)); (case side2 => exact Kd.R_tight rfl HO_0.out); rintro e w10 ⟨v161, rfl, ho0, hb, hkp⟩; refine ⟨_, rfl, ?_⟩; have n0_ := iC.mk (Kd.R_mono (ok' := fun k_ => (P0_ k_ ∨ w.heap.size ≤ k_)) ho0 (fun k_ hk_ => Or.elim hk_ (fun hs_ => (HO_0.out.1 k_ (hs_).symm)) (fun hn_ => (.inr (Nat.le_trans (by first | exact HK.out.1 | exact (show Kept w _ (fun k_ => P0_ k_) from by repeat (first | (with_reducible first | exact HK.out | apply Kept.alloc | apply Kept.drewN | apply Kept.drew) | exact HK.out)).1) hn_))))); have n1_ := iC.mk (Kept.then_ (S := (fun k_ => P0_ k_)) (by repeat (first | (with_reducible first | exact HK.out | apply Kept.alloc | apply Kept.drewN | apply Kept.drew) | exact HK.out)) hkp (fun k_ hs_ => (fun e_ => (HO_0.out.1 k_ e_.symm)) hs_)); have n2_ := iC.mk (hb); clear HK; clear HB; clear HO_0; have HO162 := n0_; have HK := n1_; have HB := n2_; clear n0_ n1_ n2_; (try clear hb); (try clear hkp); (try clear ho0)))
          go_loopg [0, 6] k1 (fun kq v0 v6 w' => ∃ (x0_2 : List Int) (x6_2 : Int), v6 = .int .i64 x6_2 ∧ iC (stratumref07_Facts.l1 kq x0_2 l1 x5_1 x6_2 = some r) ∧ iC (kq ≤ k1) ∧ iC (Kd.R (Kd.int .u8) 5 w' w0.heap.size (fun k_ => (P0_ k_ ∨ w.heap.size ≤ k_)) v0 x0_2) ∧ iC (Kept w w' (fun k_ => P0_ k_)) ∧ iC (Below w0.heap.size w0 w'))
          case atStart => exact ⟨(t160), (0), (by first | rfl | (simp; done) | (simp [*]; done)), H', ⟨Nat.le_refl _⟩, ⟨by (with_reducible repeat (first | apply Kd.R_alloc | apply Kd.R_drewN | apply Kd.R_drew)); exact HO162.out⟩, ⟨by repeat (first | (with_reducible first | exact HK.out | apply Kept.alloc | apply Kept.drewN | apply Kept.drew) | exact HK.out)⟩, ⟨hb_⟩⟩
          case round =>
            clear H'
            try clear c1
            try clear p1
            try clear q1
            try clear hx1
            try clear p2
            try clear c5
            try clear c6
            try clear c6b0
            try clear c7
            try clear c7b0
            try clear hx159_0
            try clear hx159_1
            try clear p159
            try clear p2
            try clear q159
            obtain ⟨x0_2, x6_2, rfl, HA, HK2, HO_0, HK, HB⟩ := hrel
            cases gk with
            | zero => exact absurd HA.out (by simp [stratumref07_Facts.l1])
            | succ k2 =>
              have H := HA.out
              clear HA
              simp only [stratumref07_Facts.l1] at H
              by_cases c11 : 0 ≤ x5_1
              · rw [if_pos c11] at H
                have c11b0 : decide (0 ≤ x5_1) = true := decide_eq_true c11
                clear c11
                by_cases c12 : x5_1 < (l1.length : Int)
                · rw [if_pos c12] at H
                  have c12b0 : decide (x5_1 < (l1.length : Int)) = true := decide_eq_true c12
                  clear c12
                  by_cases c13 : x6_2 < (((iQ l1 x5_1).f0).length : Int)
                  · rw [if_pos c13] at H
                    have c13b0 : decide (x6_2 < (((iQ l1 x5_1).f0).length : Int)) = true := decide_eq_true c13
                    clear c13
                    by_cases c14 : 0 ≤ x6_2
                    · rw [if_pos c14] at H
                      have c14b0 : decide (0 ≤ x6_2) = true := decide_eq_true c14
                      clear c14
                      replace H := Option.bind_eq_some_iff.mp H
                      obtain ⟨t166, A150, H⟩ := H
                      replace H : (stratumref07_Facts.l1 k2 t166 l1 x5_1 (wrap64 (x6_2 + 1))) = some r := H
                      have A15 := iC.mk A150
                      clear A150
                      have H' := iC.mk H
                      clear H
                      have p163 : 0 ≤ (x5_1 : Int) := of_decide_eq_true asm_
                      have q163 : x5_1 < (l1.length : Int) := of_decide_eq_true asm_
                      obtain ⟨ad163, A163_0, c163_0, e163, hx163_0, hx163_1, hl163_0, hi163_0⟩ := kK (Kd.C_kept_now HR1.out HK.out) x5_1 p163 q163
                      obtain rfl : ad159 = ad163 := (by injection e163)
                      have HR163_0 := iC.mk hi163_0
                      have HC163_0 := iC.mk hl163_0
                      clear hi163_0 hl163_0
                      replace p163 := eq_true p163
                      replace q163 := eq_true q163
                      have p164 : 0 ≤ (x5_1 : Int) := of_decide_eq_true asm_
                      have q164 : x5_1 < (l1.length : Int) := of_decide_eq_true asm_
                      obtain ⟨ad164, A164_0, c164_0, e164, hx164_0, hx164_1, hl164_0, hi164_0⟩ := kK (Kd.C_kept_now HR1.out HK.out) x5_1 p164 q164
                      obtain rfl : ad159 = ad164 := (by injection e164)
                      have HR164_0 := iC.mk hi164_0
                      have HC164_0 := iC.mk hl164_0
                      clear hi164_0 hl164_0
                      replace p164 := eq_true p164
                      replace q164 := eq_true q164
                      have ea_ := Option.some.inj (hx163_0.symm.trans hx164_0)
                      injection ea_ with ea_ en_ ec_
                      subst ea_
                      subst ec_
                      clear en_
                      have p165 : 0 ≤ (x6_2 : Int) := of_decide_eq_true asm_
                      have q165 : x6_2 < (((iQ l1 x5_1).f0).length : Int) := of_decide_eq_true asm_
                      obtain ⟨ad165, e165, hx165_0⟩ := Kd.at_int (by repeat (first | (with_reducible exact HR164_0.out) | (with_reducible refine Kd.C_alloc ?_ _) | (with_reducible refine Kd.C_drewN ?_ _) | (with_reducible refine Kd.C_drew ?_) | exact HR164_0.out)) x6_2 p165 q165
                      cases e165
                      replace p165 := eq_true p165
                      replace q165 := eq_true q165
                      obtain ⟨Ao16, co16, eo16⟩ := Kd.R_slice HO_0.out
                      subst eo16
                      go_wp2_with (first | ((with_reducible refine jS (f := 57) rfl ?_); refine lV (some 47) rfl rfl Tryd.func57 (by kernel_rfl) rfl #[.slice Ao16 x0_2.length co16, .int .u64 (IntKind.u64.wrap (rd ((iQ l1 x5_1).f0) x6_2)), .int .i64 4] rfl (by (try simp only [List.map_toArray, List.map_cons, List.map_nil]); first | done | rfl | (simp only [List.length_drop, List.length_take]; rfl)) ?_; (with_reducible refine (stratumref07_Put.calls k2 (fun k_ => some k_ = (.slice Ao16 x0_2.length co16 : Value).ownBlock) (.slice Ao16 x0_2.length co16) x0_2 (IntKind.u64.wrap (rd ((iQ l1 x5_1).f0) x6_2)) 4 t166 w0 _ ?side1 ?side2 A15.out).mono ?_); (case side1 => repeat (first | (with_reducible first | exact HB.out | apply iF | apply iG | apply iJ) | exact HB.out)); (case side2 => exact Kd.R_tight rfl HO_0.out); rintro e w17 ⟨v167, rfl, ho0, hb, hkp⟩; refine ⟨_, rfl, ?_⟩; have n0_ := iC.mk (Kd.R_mono (ok' := fun k_ => (P0_ k_ ∨ w.heap.size ≤ k_)) ho0 (fun k_ hk_ => Or.elim hk_ (fun hs_ => (HO_0.out.1 k_ (hs_).symm)) (fun hn_ => (.inr (Nat.le_trans (by first | exact HK.out.1 | exact (show Kept w _ (fun k_ => P0_ k_) from by repeat (first | (with_reducible first | exact HK.out | apply Kept.alloc | apply Kept.drewN | apply Kept.drew) | exact HK.out)).1) hn_))))); have n1_ := iC.mk (Kept.then_ (S := (fun k_ => P0_ k_)) (by repeat (first | (with_reducible first | exact HK.out | apply Kept.alloc | apply Kept.drewN | apply Kept.drew) | exact HK.out)) hkp (fun k_ hs_ => (fun e_ => (HO_0.out.1 k_ e_.symm)) hs_)); have n2_ := iC.mk (hb); clear HK; clear HB; clear HO_0; have HO168 := n0_; have HK := n1_; have HB := n2_; clear n0_ n1_ n2_; (try clear hb); (try clear hkp); (try clear ho0)))
                      go_roundg k2
                      case measure => have := HK1.out; have := HK2.out; omega
                      case rel => exact ⟨(t166), (wrap64 (x6_2 + 1)), (by first | rfl | (simp; done) | (simp [*]; done)), H', ⟨by have := HK1.out; have := HK2.out; omega⟩, ⟨by (with_reducible repeat (first | apply Kd.R_alloc | apply Kd.R_drewN | apply Kd.R_drew)); exact HO168.out⟩, ⟨by repeat (first | (with_reducible first | exact HK.out | apply Kept.alloc | apply Kept.drewN | apply Kept.drew) | exact HK.out)⟩, ⟨hb_⟩⟩
                    · rw [if_neg c14] at H
                      exact absurd H (by simp)
                  · rw [if_neg c13] at H
                    have c13b0 : decide (x6_2 < (((iQ l1 x5_1).f0).length : Int)) = false := decide_eq_false c13
                    clear c13
                    replace H := Option.bind_eq_some_iff.mp H
                    obtain ⟨t170, A180, H⟩ := H
                    replace H : (stratumref07_Facts.l0 k2 t170 l1 (wrap64 (x5_1 + 1))) = some r := H
                    have A18 := iC.mk A180
                    clear A180
                    have H' := iC.mk H
                    clear H
                    have p163 : 0 ≤ (x5_1 : Int) := of_decide_eq_true asm_
                    have q163 : x5_1 < (l1.length : Int) := of_decide_eq_true asm_
                    obtain ⟨ad163, A163_0, c163_0, e163, hx163_0, hx163_1, hl163_0, hi163_0⟩ := kK (Kd.C_kept_now HR1.out HK.out) x5_1 p163 q163
                    obtain rfl : ad159 = ad163 := (by injection e163)
                    have HR163_0 := iC.mk hi163_0
                    have HC163_0 := iC.mk hl163_0
                    clear hi163_0 hl163_0
                    replace p163 := eq_true p163
                    replace q163 := eq_true q163
                    have p169 : 0 ≤ (x5_1 : Int) := of_decide_eq_true asm_
                    have q169 : x5_1 < (l1.length : Int) := of_decide_eq_true asm_
                    obtain ⟨ad169, A169_0, c169_0, e169, hx169_0, hx169_1, hl169_0, hi169_0⟩ := kK (Kd.C_kept_now HR1.out HK.out) x5_1 p169 q169
                    obtain rfl : ad159 = ad169 := (by injection e169)
                    have HR169_0 := iC.mk hi169_0
                    have HC169_0 := iC.mk hl169_0
                    clear hi169_0 hl169_0
                    replace p169 := eq_true p169
                    replace q169 := eq_true q169
                    have ea_ := Option.some.inj (hx163_0.symm.trans hx169_0)
                    injection ea_ with ea_ en_ ec_
                    subst ea_
                    subst ec_
                    clear en_
                    obtain ⟨Ao19, co19, eo19⟩ := Kd.R_slice HO_0.out
                    subst eo19
                    go_wp2_with (first | ((with_reducible refine jS (f := 57) rfl ?_); refine lV (some 55) rfl rfl Tryd.func57 (by kernel_rfl) rfl #[.slice Ao19 x0_2.length co19, .int .u64 (IntKind.u64.wrap ((iQ l1 x5_1).f1)), .int .i64 8] rfl (by (try simp only [List.map_toArray, List.map_cons, List.map_nil]); first | done | rfl | (simp only [List.length_drop, List.length_take]; rfl)) ?_; (with_reducible refine (stratumref07_Put.calls k2 (fun k_ => some k_ = (.slice Ao19 x0_2.length co19 : Value).ownBlock) (.slice Ao19 x0_2.length co19) x0_2 (IntKind.u64.wrap ((iQ l1 x5_1).f1)) 8 t170 w0 _ ?side1 ?side2 A18.out).mono ?_); (case side1 => repeat (first | (with_reducible first | exact HB.out | apply iF | apply iG | apply iJ) | exact HB.out)); (case side2 => exact Kd.R_tight rfl HO_0.out); rintro e w20 ⟨v171, rfl, ho0, hb, hkp⟩; refine ⟨_, rfl, ?_⟩; have n0_ := iC.mk (Kd.R_mono (ok' := fun k_ => (P0_ k_ ∨ w.heap.size ≤ k_)) ho0 (fun k_ hk_ => Or.elim hk_ (fun hs_ => (HO_0.out.1 k_ (hs_).symm)) (fun hn_ => (.inr (Nat.le_trans (by first | exact HK.out.1 | exact (show Kept w _ (fun k_ => P0_ k_) from by repeat (first | (with_reducible first | exact HK.out | apply Kept.alloc | apply Kept.drewN | apply Kept.drew) | exact HK.out)).1) hn_))))); have n1_ := iC.mk (Kept.then_ (S := (fun k_ => P0_ k_)) (by repeat (first | (with_reducible first | exact HK.out | apply Kept.alloc | apply Kept.drewN | apply Kept.drew) | exact HK.out)) hkp (fun k_ hs_ => (fun e_ => (HO_0.out.1 k_ e_.symm)) hs_)); have n2_ := iC.mk (hb); clear HK; clear HB; clear HO_0; have HO172 := n0_; have HK := n1_; have HB := n2_; clear n0_ n1_ n2_; (try clear hb); (try clear hkp); (try clear ho0)))
                    go_roundg k2
                    case measure => have := HK1.out; have := HK2.out; omega
                    case rel => exact ⟨(t170), (wrap64 (x5_1 + 1)), (by first | rfl | (simp; done) | (simp [*]; done)), H', ⟨by have := HK1.out; have := HK2.out; omega⟩, ⟨by (with_reducible repeat (first | apply Kd.R_alloc | apply Kd.R_drewN | apply Kd.R_drew)); exact HO172.out⟩, ⟨by repeat (first | (with_reducible first | exact HK.out | apply Kept.alloc | apply Kept.drewN | apply Kept.drew) | exact HK.out)⟩, ⟨hb_⟩⟩
                · rw [if_neg c12] at H
                  exact absurd H (by simp)
              · rw [if_neg c11] at H
                exact absurd H (by simp)
        · rw [if_neg c7] at H
          exact absurd H (by simp)
      · rw [if_neg c6] at H
        have c6b0 : decide (x5_1 < (l1.length : Int)) = false := decide_eq_false c6
        clear c6
        obtain rfl := Option.some.inj H
        go_wp2
        go_ret
        exact ⟨_, by first | rfl | (simp [iT, iU] <;> rfl) | (simp [*, iT, iU] <;> rfl), by (with_reducible repeat (first | apply Kd.R_alloc | apply Kd.R_drewN | apply Kd.R_drew)); exact HO_0.out, hb_, by repeat (first | (with_reducible first | exact HK.out | apply Kept.alloc | apply Kept.drewN | apply Kept.drew) | exact HK.out)⟩
end Go.Proofs.YtgfkgppomaapiaaDoor.K
end
