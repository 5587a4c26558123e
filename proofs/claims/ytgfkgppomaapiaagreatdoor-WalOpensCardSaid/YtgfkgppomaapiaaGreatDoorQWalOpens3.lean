/- Parts of the proof, one behind the other: K64, K65, K66, CodeB, K15, K20, K21, CodeR, CodeS. -/
import Derived.Test.YtgfkgppomaapiaaGreatDoorQWalOpens2
import Derived.Shelf.Abstract
set_option linter.unusedVariables false
set_option linter.unusedSimpArgs false
section
namespace Go.Proofs.YtgfkgppomaapiaaGreatDoor.K
open Go.RowKit Go.Proofs.YtgfkgppomaapiaaGreatDoorW.PrintWords Go.Proofs.YtgfkgppomaapiaaGreatDoorW.PrintLast Go.Proofs.YtgfkgppomaapiaaGreatDoorW.PrintMore
attribute [local go_sem] jZ jW kK kH
mutual
def stratumref07_SoundFacts.l0 : Nat → List (S149) → Int → Option (Bool)
 | 0, _, _ => none
 | k + 1, x0, x3 => if x3 < (x0.length : Int) then (stratumref07_SoundFacts.l1 k x0 x3 0) else (some (decide ((x0.length : Int) ≤ 200)))
def stratumref07_SoundFacts.l1 : Nat → List (S149) → Int → Int → Option (Bool)
 | 0, _, _, _ => none
 | k + 1, x0, x3, x4 => if 0 ≤ x3 then (if x3 < (x0.length : Int) then (if x4 < (((jA x0 x3).f0).length : Int) then (if 0 ≤ x4 then (if (rd ((jA x0 x3).f0) x4) < 0 then (some false) else (if (rd ((jA x0 x3).f0) x4) > 9999 then (some false) else (stratumref07_SoundFacts.l1 k x0 x3 (wrap64 (x4 + 1))))) else (none)) else (if (((jA x0 x3).f0).length : Int) > 4 then (some false) else (stratumref07_SoundFacts.l0 k x0 (wrap64 (x3 + 1))))) else (none)) else (none)
end
def stratumref07_SoundFacts.f (k : Nat) (l0 : List (S149)) : Option (Bool) := stratumref07_SoundFacts.l0 k l0 0
set_option maxHeartbeats 8000000 in
set_option maxRecDepth 100000 in
theorem stratumref07_SoundFacts.calls (k : Nat) (A0 : Option Addr) (c0 : Nat) (l0 : List (S149)) (r : Bool) (w : World) (hr0 : Kd.C k149 w A0 l0.length l0) (hc0 : l0.length ≤ c0) (h : stratumref07_SoundFacts.f k l0 = some r) :
  Calls Tryz.prog 103 #[.slice A0 l0.length c0] w fun e w' => e = .returned (.bool r) ∧ jB w w' := by
 have HR0 := iC.mk hr0
 have HC0 := iC.mk hc0
 clear hr0 hc0
 have H : (stratumref07_SoundFacts.l0 k l0 0) = some r := h
 clear h
 have H' := iC.mk H
 clear H
 go_enter Tryz.func103, Tryz.ntmps103
 go_wp2
 go_loopg [3] k (fun kq v3 w' => ∃ (x3_1 : Int), v3 = .int .i64 x3_1 ∧ iC (stratumref07_SoundFacts.l0 kq l0 x3_1 = some r) ∧ iC (kq ≤ k) ∧ jB w w')
 case atStart => exact ⟨(0), (by first | rfl | (simp; done) | (simp [*]; done)), H', ⟨Nat.le_refl _⟩, by repeat (first | exact jB.refl _ | apply jB.step)⟩
 case round =>
  clear H'
  try clear c1
  obtain ⟨x3_1, rfl, HA, HK1, ⟨m1, rfl⟩⟩ := hrel
  cases gk with
  | zero => exact absurd HA.out (by simp [stratumref07_SoundFacts.l0])
  | succ k1 =>
   have H := HA.out
   clear HA
   simp only [stratumref07_SoundFacts.l0] at H
   by_cases c2 : x3_1 < (l0.length : Int)
   ·rw [if_pos c2] at H
    have c2b0 : decide (x3_1 < (l0.length : Int)) = true := decide_eq_true c2
    clear c2
    have H' := iC.mk H
    clear H
    go_wp2
    go_loopg [4] k1 (fun kq v4 w' => ∃ (x4_2 : Int), v4 = .int .i64 x4_2 ∧ iC (stratumref07_SoundFacts.l1 kq l0 x3_1 x4_2 = some r) ∧ iC (kq ≤ k1) ∧ jB w w')
    case atStart => exact ⟨(0), (by first | rfl | (simp; done) | (simp [*]; done)), H', ⟨Nat.le_refl _⟩, by repeat (first | exact jB.refl _ | apply jB.step)⟩
    case round =>
     clear H'
     try clear c1
     try clear c2
     try clear c2b0
     try clear p2
     obtain ⟨x4_2, rfl, HA, HK2, ⟨m2, rfl⟩⟩ := hrel
     cases gk with
     | zero => exact absurd HA.out (by simp [stratumref07_SoundFacts.l1])
     | succ k2 =>
      have H := HA.out
      clear HA
      simp only [stratumref07_SoundFacts.l1] at H
      by_cases c3 : 0 ≤ x3_1
      ·rw [if_pos c3] at H
       have c3b0 : decide (0 ≤ x3_1) = true := decide_eq_true c3
       clear c3
       by_cases c4 : x3_1 < (l0.length : Int)
       ·rw [if_pos c4] at H
        have c4b0 : decide (x3_1 < (l0.length : Int)) = true := decide_eq_true c4
        clear c4
        by_cases c5 : x4_2 < (((jA l0 x3_1).f0).length : Int)
        ·rw [if_pos c5] at H
         have c5b0 : decide (x4_2 < (((jA l0 x3_1).f0).length : Int)) = true := decide_eq_true c5
         clear c5
         by_cases c6 : 0 ≤ x4_2
         ·rw [if_pos c6] at H
          have c6b0 : decide (0 ≤ x4_2) = true := decide_eq_true c6
          clear c6
          by_cases c7 : (rd ((jA l0 x3_1).f0) x4_2) < 0
          ·rw [if_pos c7] at H
           have c7b0 : decide ((rd ((jA l0 x3_1).f0) x4_2) < 0) = true := decide_eq_true c7
           clear c7
           obtain rfl := Option.some.inj H
           have p149 : 0 ≤ (x3_1 : Int) := of_decide_eq_true asm_
           have q149 : x3_1 < (l0.length : Int) := of_decide_eq_true asm_
           obtain ⟨ad149, A149_0, c149_0, e149, hx149_0, hx149_1, hl149_0, hi149_0⟩ := lM HR0.out x3_1 p149 q149
           cases e149
           have HR149_0 := iC.mk hi149_0
           have HC149_0 := iC.mk hl149_0
           clear hi149_0 hl149_0
           replace p149 := eq_true p149
           replace q149 := eq_true q149
           have p150 : 0 ≤ (x3_1 : Int) := of_decide_eq_true asm_
           have q150 : x3_1 < (l0.length : Int) := of_decide_eq_true asm_
           obtain ⟨ad150, A150_0, c150_0, e150, hx150_0, hx150_1, hl150_0, hi150_0⟩ := lM HR0.out x3_1 p150 q150
           obtain rfl : ad149 = ad150 := (by injection e150)
           have HR150_0 := iC.mk hi150_0
           have HC150_0 := iC.mk hl150_0
           clear hi150_0 hl150_0
           replace p150 := eq_true p150
           replace q150 := eq_true q150
           have ea_ := Option.some.inj (hx149_0.symm.trans hx150_0)
           injection ea_ with ea_ en_ ec_
           subst ea_
           subst ec_
           clear en_
           have p151 : 0 ≤ (x4_2 : Int) := of_decide_eq_true asm_
           have q151 : x4_2 < (((jA l0 x3_1).f0).length : Int) := of_decide_eq_true asm_
           obtain ⟨ad151, e151, hx151_0⟩ := Kd.at_int HR150_0.out x4_2 p151 q151
           cases e151
           replace p151 := eq_true p151
           replace q151 := eq_true q151
           go_wp2
           go_ret
           exact ⟨by first | rfl | (simp; done) | (simp [*]; done), by repeat (first | exact jB.refl _ | apply jB.step)⟩
          ·rw [if_neg c7] at H
           have c7b0 : decide ((rd ((jA l0 x3_1).f0) x4_2) < 0) = false := decide_eq_false c7
           clear c7
           by_cases c8 : (rd ((jA l0 x3_1).f0) x4_2) > 9999
           ·rw [if_pos c8] at H
            have c8b0 : decide (9999 < (rd ((jA l0 x3_1).f0) x4_2)) = true := decide_eq_true c8
            clear c8
            obtain rfl := Option.some.inj H
            have p149 : 0 ≤ (x3_1 : Int) := of_decide_eq_true asm_
            have q149 : x3_1 < (l0.length : Int) := of_decide_eq_true asm_
            obtain ⟨ad149, A149_0, c149_0, e149, hx149_0, hx149_1, hl149_0, hi149_0⟩ := lM HR0.out x3_1 p149 q149
            cases e149
            have HR149_0 := iC.mk hi149_0
            have HC149_0 := iC.mk hl149_0
            clear hi149_0 hl149_0
            replace p149 := eq_true p149
            replace q149 := eq_true q149
            have p150 : 0 ≤ (x3_1 : Int) := of_decide_eq_true asm_
            have q150 : x3_1 < (l0.length : Int) := of_decide_eq_true asm_
            obtain ⟨ad150, A150_0, c150_0, e150, hx150_0, hx150_1, hl150_0, hi150_0⟩ := lM HR0.out x3_1 p150 q150
            obtain rfl : ad149 = ad150 := (by injection e150)
            have HR150_0 := iC.mk hi150_0
            have HC150_0 := iC.mk hl150_0
            clear hi150_0 hl150_0
            replace p150 := eq_true p150
            replace q150 := eq_true q150
            have ea_ := Option.some.inj (hx149_0.symm.trans hx150_0)
            injection ea_ with ea_ en_ ec_
            subst ea_
            subst ec_
            clear en_
            have p151 : 0 ≤ (x4_2 : Int) := of_decide_eq_true asm_
            have q151 : x4_2 < (((jA l0 x3_1).f0).length : Int) := of_decide_eq_true asm_
            obtain ⟨ad151, e151, hx151_0⟩ := Kd.at_int HR150_0.out x4_2 p151 q151
            cases e151
            replace p151 := eq_true p151
            replace q151 := eq_true q151
            have p152 : 0 ≤ (x3_1 : Int) := of_decide_eq_true asm_
            have q152 : x3_1 < (l0.length : Int) := of_decide_eq_true asm_
            obtain ⟨ad152, A152_0, c152_0, e152, hx152_0, hx152_1, hl152_0, hi152_0⟩ := lM HR0.out x3_1 p152 q152
            obtain rfl : ad149 = ad152 := (by injection e152)
            have HR152_0 := iC.mk hi152_0
            have HC152_0 := iC.mk hl152_0
            clear hi152_0 hl152_0
            replace p152 := eq_true p152
            replace q152 := eq_true q152
            have ea_ := Option.some.inj (hx149_0.symm.trans hx152_0)
            injection ea_ with ea_ en_ ec_
            subst ea_
            subst ec_
            clear en_
            have p153 : 0 ≤ (x4_2 : Int) := of_decide_eq_true asm_
            have q153 : x4_2 < (((jA l0 x3_1).f0).length : Int) := of_decide_eq_true asm_
            obtain ⟨ad153, e153, hx153_0⟩ := Kd.at_int HR152_0.out x4_2 p153 q153
            cases e153
            replace p153 := eq_true p153
            replace q153 := eq_true q153
            go_wp2
            go_ret
            exact ⟨by first | rfl | (simp; done) | (simp [*]; done), by repeat (first | exact jB.refl _ | apply jB.step)⟩
           ·rw [if_neg c8] at H
            have c8b0 : decide (9999 < (rd ((jA l0 x3_1).f0) x4_2)) = false := decide_eq_false c8
            clear c8
            have H' := iC.mk H
            clear H
            have p149 : 0 ≤ (x3_1 : Int) := of_decide_eq_true asm_
            have q149 : x3_1 < (l0.length : Int) := of_decide_eq_true asm_
            obtain ⟨ad149, A149_0, c149_0, e149, hx149_0, hx149_1, hl149_0, hi149_0⟩ := lM HR0.out x3_1 p149 q149
            cases e149
            have HR149_0 := iC.mk hi149_0
            have HC149_0 := iC.mk hl149_0
            clear hi149_0 hl149_0
            replace p149 := eq_true p149
            replace q149 := eq_true q149
            have p150 : 0 ≤ (x3_1 : Int) := of_decide_eq_true asm_
            have q150 : x3_1 < (l0.length : Int) := of_decide_eq_true asm_
            obtain ⟨ad150, A150_0, c150_0, e150, hx150_0, hx150_1, hl150_0, hi150_0⟩ := lM HR0.out x3_1 p150 q150
            obtain rfl : ad149 = ad150 := (by injection e150)
            have HR150_0 := iC.mk hi150_0
            have HC150_0 := iC.mk hl150_0
            clear hi150_0 hl150_0
            replace p150 := eq_true p150
            replace q150 := eq_true q150
            have ea_ := Option.some.inj (hx149_0.symm.trans hx150_0)
            injection ea_ with ea_ en_ ec_
            subst ea_
            subst ec_
            clear en_
            have p151 : 0 ≤ (x4_2 : Int) := of_decide_eq_true asm_
            have q151 : x4_2 < (((jA l0 x3_1).f0).length : Int) := of_decide_eq_true asm_
            obtain ⟨ad151, e151, hx151_0⟩ := Kd.at_int HR150_0.out x4_2 p151 q151
            cases e151
            replace p151 := eq_true p151
            replace q151 := eq_true q151
            have p152 : 0 ≤ (x3_1 : Int) := of_decide_eq_true asm_
            have q152 : x3_1 < (l0.length : Int) := of_decide_eq_true asm_
            obtain ⟨ad152, A152_0, c152_0, e152, hx152_0, hx152_1, hl152_0, hi152_0⟩ := lM HR0.out x3_1 p152 q152
            obtain rfl : ad149 = ad152 := (by injection e152)
            have HR152_0 := iC.mk hi152_0
            have HC152_0 := iC.mk hl152_0
            clear hi152_0 hl152_0
            replace p152 := eq_true p152
            replace q152 := eq_true q152
            have ea_ := Option.some.inj (hx149_0.symm.trans hx152_0)
            injection ea_ with ea_ en_ ec_
            subst ea_
            subst ec_
            clear en_
            have p153 : 0 ≤ (x4_2 : Int) := of_decide_eq_true asm_
            have q153 : x4_2 < (((jA l0 x3_1).f0).length : Int) := of_decide_eq_true asm_
            obtain ⟨ad153, e153, hx153_0⟩ := Kd.at_int HR152_0.out x4_2 p153 q153
            cases e153
            replace p153 := eq_true p153
            replace q153 := eq_true q153
            go_wp2
            go_roundg k2
            case measure => have := HK1.out; have := HK2.out; omega
            case rel => exact ⟨(wrap64 (x4_2 + 1)), (by first | rfl | (simp; done) | (simp [*]; done)), H', ⟨by have := HK1.out; have := HK2.out; omega⟩, by repeat (first | exact jB.refl _ | apply jB.step)⟩
         ·rw [if_neg c6] at H
          exact absurd H (by simp)
        ·rw [if_neg c5] at H
         have c5b0 : decide (x4_2 < (((jA l0 x3_1).f0).length : Int)) = false := decide_eq_false c5
         clear c5
         by_cases c9 : (((jA l0 x3_1).f0).length : Int) > 4
         ·rw [if_pos c9] at H
          have c9b0 : decide (4 < (((jA l0 x3_1).f0).length : Int)) = true := decide_eq_true c9
          have c9b1 : decide (4 < ((jA l0 x3_1).f0).length) = true := decide_eq_true (by omega)
          clear c9
          obtain rfl := Option.some.inj H
          have p149 : 0 ≤ (x3_1 : Int) := of_decide_eq_true asm_
          have q149 : x3_1 < (l0.length : Int) := of_decide_eq_true asm_
          obtain ⟨ad149, A149_0, c149_0, e149, hx149_0, hx149_1, hl149_0, hi149_0⟩ := lM HR0.out x3_1 p149 q149
          cases e149
          have HR149_0 := iC.mk hi149_0
          have HC149_0 := iC.mk hl149_0
          clear hi149_0 hl149_0
          replace p149 := eq_true p149
          replace q149 := eq_true q149
          have p154 : 0 ≤ (x3_1 : Int) := of_decide_eq_true asm_
          have q154 : x3_1 < (l0.length : Int) := of_decide_eq_true asm_
          obtain ⟨ad154, A154_0, c154_0, e154, hx154_0, hx154_1, hl154_0, hi154_0⟩ := lM HR0.out x3_1 p154 q154
          obtain rfl : ad149 = ad154 := (by injection e154)
          have HR154_0 := iC.mk hi154_0
          have HC154_0 := iC.mk hl154_0
          clear hi154_0 hl154_0
          replace p154 := eq_true p154
          replace q154 := eq_true q154
          have ea_ := Option.some.inj (hx149_0.symm.trans hx154_0)
          injection ea_ with ea_ en_ ec_
          subst ea_
          subst ec_
          clear en_
          go_wp2
          go_ret
          exact ⟨by first | rfl | (simp; done) | (simp [*]; done), by repeat (first | exact jB.refl _ | apply jB.step)⟩
         ·rw [if_neg c9] at H
          have c9b0 : decide (4 < (((jA l0 x3_1).f0).length : Int)) = false := decide_eq_false c9
          have c9b1 : decide (4 < ((jA l0 x3_1).f0).length) = false := decide_eq_false (by omega)
          clear c9
          have H' := iC.mk H
          clear H
          have p149 : 0 ≤ (x3_1 : Int) := of_decide_eq_true asm_
          have q149 : x3_1 < (l0.length : Int) := of_decide_eq_true asm_
          obtain ⟨ad149, A149_0, c149_0, e149, hx149_0, hx149_1, hl149_0, hi149_0⟩ := lM HR0.out x3_1 p149 q149
          cases e149
          have HR149_0 := iC.mk hi149_0
          have HC149_0 := iC.mk hl149_0
          clear hi149_0 hl149_0
          replace p149 := eq_true p149
          replace q149 := eq_true q149
          have p154 : 0 ≤ (x3_1 : Int) := of_decide_eq_true asm_
          have q154 : x3_1 < (l0.length : Int) := of_decide_eq_true asm_
          obtain ⟨ad154, A154_0, c154_0, e154, hx154_0, hx154_1, hl154_0, hi154_0⟩ := lM HR0.out x3_1 p154 q154
          obtain rfl : ad149 = ad154 := (by injection e154)
          have HR154_0 := iC.mk hi154_0
          have HC154_0 := iC.mk hl154_0
          clear hi154_0 hl154_0
          replace p154 := eq_true p154
          replace q154 := eq_true q154
          have ea_ := Option.some.inj (hx149_0.symm.trans hx154_0)
          injection ea_ with ea_ en_ ec_
          subst ea_
          subst ec_
          clear en_
          go_wp2
          go_roundg k2
          case measure => have := HK1.out; have := HK2.out; omega
          case rel => exact ⟨(wrap64 (x3_1 + 1)), (by first | rfl | (simp; done) | (simp [*]; done)), H', ⟨by have := HK1.out; have := HK2.out; omega⟩, by repeat (first | exact jB.refl _ | apply jB.step)⟩
       ·rw [if_neg c4] at H
        exact absurd H (by simp)
      ·rw [if_neg c3] at H
       exact absurd H (by simp)
   ·rw [if_neg c2] at H
    have c2b0 : decide (x3_1 < (l0.length : Int)) = false := decide_eq_false c2
    clear c2
    obtain rfl := Option.some.inj H
    go_wp2
    go_ret
    exact ⟨by first | rfl | (simp; done) | (simp [*]; done), by repeat (first | exact jB.refl _ | apply jB.step)⟩
end Go.Proofs.YtgfkgppomaapiaaGreatDoor.K
end

section
namespace Go.Proofs.YtgfkgppomaapiaaGreatDoor.K
open Go.RowKit Go.Proofs.YtgfkgppomaapiaaGreatDoorW.PrintWords Go.Proofs.YtgfkgppomaapiaaGreatDoorW.PrintLast Go.Proofs.YtgfkgppomaapiaaGreatDoorW.PrintMore
attribute [local go_sem] jZ jW kK kH
def stratumref07_spans.l0 : Nat → List (S122) → Int → Option (Bool)
 | 0, _, _ => none
 | k + 1, x0, x3 => if x3 < (x0.length : Int) then (if 0 ≤ x3 then (if ((jM x0 x3).f0) < 0 then (some false) else (if ((jM x0 x3).f0) > 9999 then (some false) else (if ((jM x0 x3).f1) < 0 then (some false) else (if ((jM x0 x3).f1) > 5 then (some false) else (stratumref07_spans.l0 k x0 (wrap64 (x3 + 1))))))) else (none)) else (some (decide ((x0.length : Int) ≤ 40)))
def stratumref07_spans.f (k : Nat) (l0 : List (S122)) : Option (Bool) := stratumref07_spans.l0 k l0 0
set_option maxHeartbeats 8000000 in
set_option maxRecDepth 100000 in
theorem stratumref07_spans.calls (k : Nat) (A0 : Option Addr) (c0 : Nat) (l0 : List (S122)) (r : Bool) (w : World) (hr0 : Kd.C k122 w A0 l0.length l0) (hc0 : l0.length ≤ c0) (h : stratumref07_spans.f k l0 = some r) :
  Calls Tryz.prog 104 #[.slice A0 l0.length c0] w fun e w' => e = .returned (.bool r) ∧ jB w w' := by
 have HR0 := iC.mk hr0
 have HC0 := iC.mk hc0
 clear hr0 hc0
 have H : (stratumref07_spans.l0 k l0 0) = some r := h
 clear h
 have H' := iC.mk H
 clear H
 go_enter Tryz.func104, Tryz.ntmps104
 go_wp2
 go_loopg [3] k (fun kq v3 w' => ∃ (x3_1 : Int), v3 = .int .i64 x3_1 ∧ iC (stratumref07_spans.l0 kq l0 x3_1 = some r) ∧ iC (kq ≤ k) ∧ jB w w')
 case atStart => exact ⟨(0), (by first | rfl | (simp; done) | (simp [*]; done)), H', ⟨Nat.le_refl _⟩, by repeat (first | exact jB.refl _ | apply jB.step)⟩
 case round =>
  clear H'
  try clear c1
  obtain ⟨x3_1, rfl, HA, HK1, ⟨m1, rfl⟩⟩ := hrel
  cases gk with
  | zero => exact absurd HA.out (by simp [stratumref07_spans.l0])
  | succ k1 =>
   have H := HA.out
   clear HA
   simp only [stratumref07_spans.l0] at H
   by_cases c2 : x3_1 < (l0.length : Int)
   ·rw [if_pos c2] at H
    have c2b0 : decide (x3_1 < (l0.length : Int)) = true := decide_eq_true c2
    clear c2
    by_cases c3 : 0 ≤ x3_1
    ·rw [if_pos c3] at H
     have c3b0 : decide (0 ≤ x3_1) = true := decide_eq_true c3
     clear c3
     by_cases c4 : ((jM l0 x3_1).f0) < 0
     ·rw [if_pos c4] at H
      have c4b0 : decide (((jM l0 x3_1).f0) < 0) = true := decide_eq_true c4
      clear c4
      obtain rfl := Option.some.inj H
      have p155 : 0 ≤ (x3_1 : Int) := of_decide_eq_true asm_
      have q155 : x3_1 < (l0.length : Int) := of_decide_eq_true asm_
      obtain ⟨ad155, e155, hx155_0, hx155_1⟩ := lI HR0.out x3_1 p155 q155
      cases e155
      replace p155 := eq_true p155
      replace q155 := eq_true q155
      go_wp2
      go_ret
      exact ⟨by first | rfl | (simp; done) | (simp [*]; done), by repeat (first | exact jB.refl _ | apply jB.step)⟩
     ·rw [if_neg c4] at H
      have c4b0 : decide (((jM l0 x3_1).f0) < 0) = false := decide_eq_false c4
      clear c4
      by_cases c5 : ((jM l0 x3_1).f0) > 9999
      ·rw [if_pos c5] at H
       have c5b0 : decide (9999 < ((jM l0 x3_1).f0)) = true := decide_eq_true c5
       clear c5
       obtain rfl := Option.some.inj H
       have p155 : 0 ≤ (x3_1 : Int) := of_decide_eq_true asm_
       have q155 : x3_1 < (l0.length : Int) := of_decide_eq_true asm_
       obtain ⟨ad155, e155, hx155_0, hx155_1⟩ := lI HR0.out x3_1 p155 q155
       cases e155
       replace p155 := eq_true p155
       replace q155 := eq_true q155
       have p156 : 0 ≤ (x3_1 : Int) := of_decide_eq_true asm_
       have q156 : x3_1 < (l0.length : Int) := of_decide_eq_true asm_
       obtain ⟨ad156, e156, hx156_0, hx156_1⟩ := lI HR0.out x3_1 p156 q156
       obtain rfl : ad155 = ad156 := (by injection e156)
       replace p156 := eq_true p156
       replace q156 := eq_true q156
       go_wp2
       go_ret
       exact ⟨by first | rfl | (simp; done) | (simp [*]; done), by repeat (first | exact jB.refl _ | apply jB.step)⟩
      ·rw [if_neg c5] at H
       have c5b0 : decide (9999 < ((jM l0 x3_1).f0)) = false := decide_eq_false c5
       clear c5
       by_cases c6 : ((jM l0 x3_1).f1) < 0
       ·rw [if_pos c6] at H
        have c6b0 : decide (((jM l0 x3_1).f1) < 0) = true := decide_eq_true c6
        clear c6
        obtain rfl := Option.some.inj H
        have p155 : 0 ≤ (x3_1 : Int) := of_decide_eq_true asm_
        have q155 : x3_1 < (l0.length : Int) := of_decide_eq_true asm_
        obtain ⟨ad155, e155, hx155_0, hx155_1⟩ := lI HR0.out x3_1 p155 q155
        cases e155
        replace p155 := eq_true p155
        replace q155 := eq_true q155
        have p156 : 0 ≤ (x3_1 : Int) := of_decide_eq_true asm_
        have q156 : x3_1 < (l0.length : Int) := of_decide_eq_true asm_
        obtain ⟨ad156, e156, hx156_0, hx156_1⟩ := lI HR0.out x3_1 p156 q156
        obtain rfl : ad155 = ad156 := (by injection e156)
        replace p156 := eq_true p156
        replace q156 := eq_true q156
        have p157 : 0 ≤ (x3_1 : Int) := of_decide_eq_true asm_
        have q157 : x3_1 < (l0.length : Int) := of_decide_eq_true asm_
        obtain ⟨ad157, e157, hx157_0, hx157_1⟩ := lI HR0.out x3_1 p157 q157
        obtain rfl : ad155 = ad157 := (by injection e157)
        replace p157 := eq_true p157
        replace q157 := eq_true q157
        go_wp2
        go_ret
        exact ⟨by first | rfl | (simp; done) | (simp [*]; done), by repeat (first | exact jB.refl _ | apply jB.step)⟩
       ·rw [if_neg c6] at H
        have c6b0 : decide (((jM l0 x3_1).f1) < 0) = false := decide_eq_false c6
        clear c6
        by_cases c7 : ((jM l0 x3_1).f1) > 5
        ·rw [if_pos c7] at H
         have c7b0 : decide (5 < ((jM l0 x3_1).f1)) = true := decide_eq_true c7
         clear c7
         obtain rfl := Option.some.inj H
         have p155 : 0 ≤ (x3_1 : Int) := of_decide_eq_true asm_
         have q155 : x3_1 < (l0.length : Int) := of_decide_eq_true asm_
         obtain ⟨ad155, e155, hx155_0, hx155_1⟩ := lI HR0.out x3_1 p155 q155
         cases e155
         replace p155 := eq_true p155
         replace q155 := eq_true q155
         have p156 : 0 ≤ (x3_1 : Int) := of_decide_eq_true asm_
         have q156 : x3_1 < (l0.length : Int) := of_decide_eq_true asm_
         obtain ⟨ad156, e156, hx156_0, hx156_1⟩ := lI HR0.out x3_1 p156 q156
         obtain rfl : ad155 = ad156 := (by injection e156)
         replace p156 := eq_true p156
         replace q156 := eq_true q156
         have p157 : 0 ≤ (x3_1 : Int) := of_decide_eq_true asm_
         have q157 : x3_1 < (l0.length : Int) := of_decide_eq_true asm_
         obtain ⟨ad157, e157, hx157_0, hx157_1⟩ := lI HR0.out x3_1 p157 q157
         obtain rfl : ad155 = ad157 := (by injection e157)
         replace p157 := eq_true p157
         replace q157 := eq_true q157
         have p158 : 0 ≤ (x3_1 : Int) := of_decide_eq_true asm_
         have q158 : x3_1 < (l0.length : Int) := of_decide_eq_true asm_
         obtain ⟨ad158, e158, hx158_0, hx158_1⟩ := lI HR0.out x3_1 p158 q158
         obtain rfl : ad155 = ad158 := (by injection e158)
         replace p158 := eq_true p158
         replace q158 := eq_true q158
         go_wp2
         go_ret
         exact ⟨by first | rfl | (simp; done) | (simp [*]; done), by repeat (first | exact jB.refl _ | apply jB.step)⟩
        ·rw [if_neg c7] at H
         have c7b0 : decide (5 < ((jM l0 x3_1).f1)) = false := decide_eq_false c7
         clear c7
         have H' := iC.mk H
         clear H
         have p155 : 0 ≤ (x3_1 : Int) := of_decide_eq_true asm_
         have q155 : x3_1 < (l0.length : Int) := of_decide_eq_true asm_
         obtain ⟨ad155, e155, hx155_0, hx155_1⟩ := lI HR0.out x3_1 p155 q155
         cases e155
         replace p155 := eq_true p155
         replace q155 := eq_true q155
         have p156 : 0 ≤ (x3_1 : Int) := of_decide_eq_true asm_
         have q156 : x3_1 < (l0.length : Int) := of_decide_eq_true asm_
         obtain ⟨ad156, e156, hx156_0, hx156_1⟩ := lI HR0.out x3_1 p156 q156
         obtain rfl : ad155 = ad156 := (by injection e156)
         replace p156 := eq_true p156
         replace q156 := eq_true q156
         have p157 : 0 ≤ (x3_1 : Int) := of_decide_eq_true asm_
         have q157 : x3_1 < (l0.length : Int) := of_decide_eq_true asm_
         obtain ⟨ad157, e157, hx157_0, hx157_1⟩ := lI HR0.out x3_1 p157 q157
         obtain rfl : ad155 = ad157 := (by injection e157)
         replace p157 := eq_true p157
         replace q157 := eq_true q157
         have p158 : 0 ≤ (x3_1 : Int) := of_decide_eq_true asm_
         have q158 : x3_1 < (l0.length : Int) := of_decide_eq_true asm_
         obtain ⟨ad158, e158, hx158_0, hx158_1⟩ := lI HR0.out x3_1 p158 q158
         obtain rfl : ad155 = ad158 := (by injection e158)
         replace p158 := eq_true p158
         replace q158 := eq_true q158
         go_wp2
         go_roundg k1
         case measure => have := HK1.out; omega
         case rel => exact ⟨(wrap64 (x3_1 + 1)), (by first | rfl | (simp; done) | (simp [*]; done)), H', ⟨by have := HK1.out; omega⟩, by repeat (first | exact jB.refl _ | apply jB.step)⟩
    ·rw [if_neg c3] at H
     exact absurd H (by simp)
   ·rw [if_neg c2] at H
    have c2b0 : decide (x3_1 < (l0.length : Int)) = false := decide_eq_false c2
    clear c2
    obtain rfl := Option.some.inj H
    go_wp2
    go_ret
    exact ⟨by first | rfl | (simp; done) | (simp [*]; done), by repeat (first | exact jB.refl _ | apply jB.step)⟩
end Go.Proofs.YtgfkgppomaapiaaGreatDoor.K
end

section
namespace Go.Proofs.YtgfkgppomaapiaaGreatDoor.K
open Go.RowKit Go.Proofs.YtgfkgppomaapiaaGreatDoorW.PrintWords Go.Proofs.YtgfkgppomaapiaaGreatDoorW.PrintLast Go.Proofs.YtgfkgppomaapiaaGreatDoorW.PrintMore
attribute [local go_sem] jZ jW kK kH
def stratumref07_SoundEntries.l0 : Nat → List (S114) → Int → Option (Bool)
 | 0, _, _ => none
 | k + 1, x0, x3 => if x3 < (x0.length : Int) then (if 0 ≤ x3 then ((stratumref07_SoundFacts.f k ((iK x0 x3).f1)).bind fun t160 => (if t160 = true then (if x3 > 0 then (if 0 ≤ (wrap64 (x3 - 1)) then (if (wrap64 (x3 - 1)) < (x0.length : Int) then (if ((iK x0 x3).f0) ≤ ((iK x0 (wrap64 (x3 - 1))).f0) then (some false) else (stratumref07_SoundEntries.l0 k x0 (wrap64 (x3 + 1)))) else (none)) else (none)) else (stratumref07_SoundEntries.l0 k x0 (wrap64 (x3 + 1)))) else (some false))) else (none)) else (some (decide ((x0.length : Int) ≤ 5000)))
def stratumref07_SoundEntries.f (k : Nat) (l0 : List (S114)) : Option (Bool) := stratumref07_SoundEntries.l0 k l0 0
set_option maxHeartbeats 8000000 in
set_option maxRecDepth 100000 in
theorem stratumref07_SoundEntries.calls (k : Nat) (A0 : Option Addr) (c0 : Nat) (l0 : List (S114)) (r : Bool) (w : World) (hr0 : Kd.C k114 w A0 l0.length l0) (hc0 : l0.length ≤ c0) (h : stratumref07_SoundEntries.f k l0 = some r) :
  Calls Tryz.prog 105 #[.slice A0 l0.length c0] w fun e w' => e = .returned (.bool r) ∧ jB w w' := by
 have HR0 := iC.mk hr0
 have HC0 := iC.mk hc0
 clear hr0 hc0
 have H : (stratumref07_SoundEntries.l0 k l0 0) = some r := h
 clear h
 have H' := iC.mk H
 clear H
 go_enter Tryz.func105, Tryz.ntmps105
 go_wp2
 repeat (go_quiet (fail); try go_wp2)
 go_loopg [3] k (fun kq v3 w' => ∃ (x3_1 : Int), v3 = .int .i64 x3_1 ∧ iC (stratumref07_SoundEntries.l0 kq l0 x3_1 = some r) ∧ iC (kq ≤ k) ∧ jB w w')
 case atStart => exact ⟨(0), (by first | rfl | (simp; done) | (simp [*]; done)), H', ⟨Nat.le_refl _⟩, by repeat (first | exact jB.refl _ | apply jB.step)⟩
 case round =>
  clear H'
  try clear c1
  obtain ⟨x3_1, rfl, HA, HK1, ⟨m1, rfl⟩⟩ := hrel
  cases gk with
  | zero => exact absurd HA.out (by simp [stratumref07_SoundEntries.l0])
  | succ k1 =>
   have H := HA.out
   clear HA
   simp only [stratumref07_SoundEntries.l0] at H
   by_cases c2 : x3_1 < (l0.length : Int)
   ·rw [if_pos c2] at H
    have c2b0 : decide (x3_1 < (l0.length : Int)) = true := decide_eq_true c2
    clear c2
    by_cases c3 : 0 ≤ x3_1
    ·rw [if_pos c3] at H
     have c3b0 : decide (0 ≤ x3_1) = true := decide_eq_true c3
     clear c3
     replace H := Option.bind_eq_some_iff.mp H
     obtain ⟨t160, A40, H⟩ := H
     replace H : (if t160 = true then (if x3_1 > 0 then (if 0 ≤ (wrap64 (x3_1 - 1)) then (if (wrap64 (x3_1 - 1)) < (l0.length : Int) then (if ((iK l0 x3_1).f0) ≤ ((iK l0 (wrap64 (x3_1 - 1))).f0) then (some false) else (stratumref07_SoundEntries.l0 k1 l0 (wrap64 (x3_1 + 1)))) else (none)) else (none)) else (stratumref07_SoundEntries.l0 k1 l0 (wrap64 (x3_1 + 1)))) else (some false)) = some r := H
     have A4 := iC.mk A40
     clear A40
     by_cases c5 : t160 = true
     ·subst c5
      have H1 : (if x3_1 > 0 then (if 0 ≤ (wrap64 (x3_1 - 1)) then (if (wrap64 (x3_1 - 1)) < (l0.length : Int) then (if ((iK l0 x3_1).f0) ≤ ((iK l0 (wrap64 (x3_1 - 1))).f0) then (some false) else (stratumref07_SoundEntries.l0 k1 l0 (wrap64 (x3_1 + 1)))) else (none)) else (none)) else (stratumref07_SoundEntries.l0 k1 l0 (wrap64 (x3_1 + 1)))) = some r := by rw [if_pos rfl] at H; exact H
      clear H
      have H := H1
      clear H1
      by_cases c6 : x3_1 > 0
      ·rw [if_pos c6] at H
       have c6b0 : decide (0 < x3_1) = true := decide_eq_true c6
       clear c6
       obtain ⟨ji7, hji7⟩ : ∃ j_ : Int, (wrap64 (x3_1 - 1)) = j_ := ⟨_, rfl⟩
       replace H : (if 0 ≤ (ji7) then (if (ji7) < (l0.length : Int) then (if ((iK l0 x3_1).f0) ≤ ((iK l0 (ji7)).f0) then (some false) else (stratumref07_SoundEntries.l0 k1 l0 (wrap64 (x3_1 + 1)))) else (none)) else (none)) = some r := by first | (rw [hji7] at H; exact H) | (simp only [hji7] at H ⊢; exact H)
       (try rw [hji7] at A4)
       have hji7w : (IntKind.i64.wrap (x3_1 - 1)) = ji7 := (iR _).trans hji7
       by_cases c8 : 0 ≤ (ji7)
       ·rw [if_pos c8] at H
        have c8b0 : decide (0 ≤ (ji7)) = true := decide_eq_true c8
        clear c8
        by_cases c9 : (ji7) < (l0.length : Int)
        ·rw [if_pos c9] at H
         have c9b0 : decide ((ji7) < (l0.length : Int)) = true := decide_eq_true c9
         clear c9
         by_cases c10 : ((iK l0 x3_1).f0) ≤ ((iK l0 (ji7)).f0)
         ·rw [if_pos c10] at H
          have c10b0 : decide (((iK l0 x3_1).f0) ≤ ((iK l0 (ji7)).f0)) = true := decide_eq_true c10
          clear c10
          obtain rfl := Option.some.inj H
          have p159 : 0 ≤ (x3_1 : Int) := of_decide_eq_true asm_
          have q159 : x3_1 < (l0.length : Int) := of_decide_eq_true asm_
          obtain ⟨ad159, A159_1, c159_1, e159, hx159_0, hx159_1, hl159_1, hi159_1⟩ := kS HR0.out x3_1 p159 q159
          cases e159
          have HR159_1 := iC.mk hi159_1
          have HC159_1 := iC.mk hl159_1
          clear hi159_1 hl159_1
          replace p159 := eq_true p159
          replace q159 := eq_true q159
          go_wp2_with (first | (go_at_call 103; (with_reducible refine (stratumref07_SoundFacts.calls k1 _ _ ((iK l0 x3_1).f1) true _ ?side1 ?side2 A4.out).mono ?_); (case side1 => repeat (first | exact HR159_1.out | (with_reducible refine Kd.C_alloc ?_ _) | (with_reducible refine Kd.C_drewN ?_ _) | (with_reducible refine Kd.C_drew ?_))); (case side2 => exact HC159_1.out); rintro e w' ⟨rfl, ⟨nd, rfl⟩⟩; (try first | exact ⟨rfl, _, World.drewN_drewN _ _ _⟩ | exact ⟨rfl, _, Eq.trans (World.drewN_drewN _ _ _) (congrArg (World.drewN _) (Nat.add_assoc _ _ _))⟩); have p161 : 0 ≤ (x3_1 : Int) := of_decide_eq_true asm_; have q161 : x3_1 < (l0.length : Int) := of_decide_eq_true asm_; obtain ⟨ad161, A161_1, c161_1, e161, hx161_0, hx161_1, hl161_1, hi161_1⟩ := kS HR0.out x3_1 p161 q161; obtain rfl : ad159 = ad161 := (by injection e161); have HR161_1 := iC.mk hi161_1; have HC161_1 := iC.mk hl161_1; clear hi161_1 hl161_1; replace p161 := eq_true p161; replace q161 := eq_true q161; have ea_ := Option.some.inj (hx159_1.symm.trans hx161_1); injection ea_ with ea_ en_ ec_; subst ea_; subst ec_; clear en_; have p162 : 0 ≤ ((ji7) : Int) := of_decide_eq_true asm_; have q162 : (ji7) < (l0.length : Int) := of_decide_eq_true asm_; obtain ⟨ad162, A162_1, c162_1, e162, hx162_0, hx162_1, hl162_1, hi162_1⟩ := kS HR0.out (ji7) p162 q162; obtain rfl : ad159 = ad162 := (by injection e162); have HR162_1 := iC.mk hi162_1; have HC162_1 := iC.mk hl162_1; clear hi162_1 hl162_1; replace p162 := eq_true p162; replace q162 := eq_true q162))
          repeat (go_quiet (first | (go_at_call 103; (with_reducible refine (stratumref07_SoundFacts.calls k1 _ _ ((iK l0 x3_1).f1) true _ ?side1 ?side2 A4.out).mono ?_); (case side1 => repeat (first | exact HR159_1.out | (with_reducible refine Kd.C_alloc ?_ _) | (with_reducible refine Kd.C_drewN ?_ _) | (with_reducible refine Kd.C_drew ?_))); (case side2 => exact HC159_1.out); rintro e w' ⟨rfl, ⟨nd, rfl⟩⟩; (try first | exact ⟨rfl, _, World.drewN_drewN _ _ _⟩ | exact ⟨rfl, _, Eq.trans (World.drewN_drewN _ _ _) (congrArg (World.drewN _) (Nat.add_assoc _ _ _))⟩); have p161 : 0 ≤ (x3_1 : Int) := of_decide_eq_true asm_; have q161 : x3_1 < (l0.length : Int) := of_decide_eq_true asm_; obtain ⟨ad161, A161_1, c161_1, e161, hx161_0, hx161_1, hl161_1, hi161_1⟩ := kS HR0.out x3_1 p161 q161; obtain rfl : ad159 = ad161 := (by injection e161); have HR161_1 := iC.mk hi161_1; have HC161_1 := iC.mk hl161_1; clear hi161_1 hl161_1; replace p161 := eq_true p161; replace q161 := eq_true q161; have ea_ := Option.some.inj (hx159_1.symm.trans hx161_1); injection ea_ with ea_ en_ ec_; subst ea_; subst ec_; clear en_; have p162 : 0 ≤ ((ji7) : Int) := of_decide_eq_true asm_; have q162 : (ji7) < (l0.length : Int) := of_decide_eq_true asm_; obtain ⟨ad162, A162_1, c162_1, e162, hx162_0, hx162_1, hl162_1, hi162_1⟩ := kS HR0.out (ji7) p162 q162; obtain rfl : ad159 = ad162 := (by injection e162); have HR162_1 := iC.mk hi162_1; have HC162_1 := iC.mk hl162_1; clear hi162_1 hl162_1; replace p162 := eq_true p162; replace q162 := eq_true q162)); try go_wp2_with (first | (go_at_call 103; (with_reducible refine (stratumref07_SoundFacts.calls k1 _ _ ((iK l0 x3_1).f1) true _ ?side1 ?side2 A4.out).mono ?_); (case side1 => repeat (first | exact HR159_1.out | (with_reducible refine Kd.C_alloc ?_ _) | (with_reducible refine Kd.C_drewN ?_ _) | (with_reducible refine Kd.C_drew ?_))); (case side2 => exact HC159_1.out); rintro e w' ⟨rfl, ⟨nd, rfl⟩⟩; (try first | exact ⟨rfl, _, World.drewN_drewN _ _ _⟩ | exact ⟨rfl, _, Eq.trans (World.drewN_drewN _ _ _) (congrArg (World.drewN _) (Nat.add_assoc _ _ _))⟩); have p161 : 0 ≤ (x3_1 : Int) := of_decide_eq_true asm_; have q161 : x3_1 < (l0.length : Int) := of_decide_eq_true asm_; obtain ⟨ad161, A161_1, c161_1, e161, hx161_0, hx161_1, hl161_1, hi161_1⟩ := kS HR0.out x3_1 p161 q161; obtain rfl : ad159 = ad161 := (by injection e161); have HR161_1 := iC.mk hi161_1; have HC161_1 := iC.mk hl161_1; clear hi161_1 hl161_1; replace p161 := eq_true p161; replace q161 := eq_true q161; have ea_ := Option.some.inj (hx159_1.symm.trans hx161_1); injection ea_ with ea_ en_ ec_; subst ea_; subst ec_; clear en_; have p162 : 0 ≤ ((ji7) : Int) := of_decide_eq_true asm_; have q162 : (ji7) < (l0.length : Int) := of_decide_eq_true asm_; obtain ⟨ad162, A162_1, c162_1, e162, hx162_0, hx162_1, hl162_1, hi162_1⟩ := kS HR0.out (ji7) p162 q162; obtain rfl : ad159 = ad162 := (by injection e162); have HR162_1 := iC.mk hi162_1; have HC162_1 := iC.mk hl162_1; clear hi162_1 hl162_1; replace p162 := eq_true p162; replace q162 := eq_true q162)))
          go_ret
          exact ⟨by first | rfl | (simp; done) | (simp only [← hji7] <;> (first | rfl | simp)) | (simp [*]; done), by repeat (first | exact jB.refl _ | apply jB.step)⟩
         ·rw [if_neg c10] at H
          have c10b0 : decide (((iK l0 x3_1).f0) ≤ ((iK l0 (ji7)).f0)) = false := decide_eq_false c10
          clear c10
          have H' := iC.mk H
          clear H
          have p159 : 0 ≤ (x3_1 : Int) := of_decide_eq_true asm_
          have q159 : x3_1 < (l0.length : Int) := of_decide_eq_true asm_
          obtain ⟨ad159, A159_1, c159_1, e159, hx159_0, hx159_1, hl159_1, hi159_1⟩ := kS HR0.out x3_1 p159 q159
          cases e159
          have HR159_1 := iC.mk hi159_1
          have HC159_1 := iC.mk hl159_1
          clear hi159_1 hl159_1
          replace p159 := eq_true p159
          replace q159 := eq_true q159
          go_wp2_with (first | (go_at_call 103; (with_reducible refine (stratumref07_SoundFacts.calls k1 _ _ ((iK l0 x3_1).f1) true _ ?side1 ?side2 A4.out).mono ?_); (case side1 => repeat (first | exact HR159_1.out | (with_reducible refine Kd.C_alloc ?_ _) | (with_reducible refine Kd.C_drewN ?_ _) | (with_reducible refine Kd.C_drew ?_))); (case side2 => exact HC159_1.out); rintro e w' ⟨rfl, ⟨nd, rfl⟩⟩; (try first | exact ⟨rfl, _, World.drewN_drewN _ _ _⟩ | exact ⟨rfl, _, Eq.trans (World.drewN_drewN _ _ _) (congrArg (World.drewN _) (Nat.add_assoc _ _ _))⟩); have p161 : 0 ≤ (x3_1 : Int) := of_decide_eq_true asm_; have q161 : x3_1 < (l0.length : Int) := of_decide_eq_true asm_; obtain ⟨ad161, A161_1, c161_1, e161, hx161_0, hx161_1, hl161_1, hi161_1⟩ := kS HR0.out x3_1 p161 q161; obtain rfl : ad159 = ad161 := (by injection e161); have HR161_1 := iC.mk hi161_1; have HC161_1 := iC.mk hl161_1; clear hi161_1 hl161_1; replace p161 := eq_true p161; replace q161 := eq_true q161; have ea_ := Option.some.inj (hx159_1.symm.trans hx161_1); injection ea_ with ea_ en_ ec_; subst ea_; subst ec_; clear en_; have p162 : 0 ≤ ((ji7) : Int) := of_decide_eq_true asm_; have q162 : (ji7) < (l0.length : Int) := of_decide_eq_true asm_; obtain ⟨ad162, A162_1, c162_1, e162, hx162_0, hx162_1, hl162_1, hi162_1⟩ := kS HR0.out (ji7) p162 q162; obtain rfl : ad159 = ad162 := (by injection e162); have HR162_1 := iC.mk hi162_1; have HC162_1 := iC.mk hl162_1; clear hi162_1 hl162_1; replace p162 := eq_true p162; replace q162 := eq_true q162))
          repeat (go_quiet (first | (go_at_call 103; (with_reducible refine (stratumref07_SoundFacts.calls k1 _ _ ((iK l0 x3_1).f1) true _ ?side1 ?side2 A4.out).mono ?_); (case side1 => repeat (first | exact HR159_1.out | (with_reducible refine Kd.C_alloc ?_ _) | (with_reducible refine Kd.C_drewN ?_ _) | (with_reducible refine Kd.C_drew ?_))); (case side2 => exact HC159_1.out); rintro e w' ⟨rfl, ⟨nd, rfl⟩⟩; (try first | exact ⟨rfl, _, World.drewN_drewN _ _ _⟩ | exact ⟨rfl, _, Eq.trans (World.drewN_drewN _ _ _) (congrArg (World.drewN _) (Nat.add_assoc _ _ _))⟩); have p161 : 0 ≤ (x3_1 : Int) := of_decide_eq_true asm_; have q161 : x3_1 < (l0.length : Int) := of_decide_eq_true asm_; obtain ⟨ad161, A161_1, c161_1, e161, hx161_0, hx161_1, hl161_1, hi161_1⟩ := kS HR0.out x3_1 p161 q161; obtain rfl : ad159 = ad161 := (by injection e161); have HR161_1 := iC.mk hi161_1; have HC161_1 := iC.mk hl161_1; clear hi161_1 hl161_1; replace p161 := eq_true p161; replace q161 := eq_true q161; have ea_ := Option.some.inj (hx159_1.symm.trans hx161_1); injection ea_ with ea_ en_ ec_; subst ea_; subst ec_; clear en_; have p162 : 0 ≤ ((ji7) : Int) := of_decide_eq_true asm_; have q162 : (ji7) < (l0.length : Int) := of_decide_eq_true asm_; obtain ⟨ad162, A162_1, c162_1, e162, hx162_0, hx162_1, hl162_1, hi162_1⟩ := kS HR0.out (ji7) p162 q162; obtain rfl : ad159 = ad162 := (by injection e162); have HR162_1 := iC.mk hi162_1; have HC162_1 := iC.mk hl162_1; clear hi162_1 hl162_1; replace p162 := eq_true p162; replace q162 := eq_true q162)); try go_wp2_with (first | (go_at_call 103; (with_reducible refine (stratumref07_SoundFacts.calls k1 _ _ ((iK l0 x3_1).f1) true _ ?side1 ?side2 A4.out).mono ?_); (case side1 => repeat (first | exact HR159_1.out | (with_reducible refine Kd.C_alloc ?_ _) | (with_reducible refine Kd.C_drewN ?_ _) | (with_reducible refine Kd.C_drew ?_))); (case side2 => exact HC159_1.out); rintro e w' ⟨rfl, ⟨nd, rfl⟩⟩; (try first | exact ⟨rfl, _, World.drewN_drewN _ _ _⟩ | exact ⟨rfl, _, Eq.trans (World.drewN_drewN _ _ _) (congrArg (World.drewN _) (Nat.add_assoc _ _ _))⟩); have p161 : 0 ≤ (x3_1 : Int) := of_decide_eq_true asm_; have q161 : x3_1 < (l0.length : Int) := of_decide_eq_true asm_; obtain ⟨ad161, A161_1, c161_1, e161, hx161_0, hx161_1, hl161_1, hi161_1⟩ := kS HR0.out x3_1 p161 q161; obtain rfl : ad159 = ad161 := (by injection e161); have HR161_1 := iC.mk hi161_1; have HC161_1 := iC.mk hl161_1; clear hi161_1 hl161_1; replace p161 := eq_true p161; replace q161 := eq_true q161; have ea_ := Option.some.inj (hx159_1.symm.trans hx161_1); injection ea_ with ea_ en_ ec_; subst ea_; subst ec_; clear en_; have p162 : 0 ≤ ((ji7) : Int) := of_decide_eq_true asm_; have q162 : (ji7) < (l0.length : Int) := of_decide_eq_true asm_; obtain ⟨ad162, A162_1, c162_1, e162, hx162_0, hx162_1, hl162_1, hi162_1⟩ := kS HR0.out (ji7) p162 q162; obtain rfl : ad159 = ad162 := (by injection e162); have HR162_1 := iC.mk hi162_1; have HC162_1 := iC.mk hl162_1; clear hi162_1 hl162_1; replace p162 := eq_true p162; replace q162 := eq_true q162)))
          go_roundg k1
          case measure => have := HK1.out; omega
          case rel => exact ⟨(wrap64 (x3_1 + 1)), (by first | rfl | (simp; done) | (simp [*]; done)), H', ⟨by have := HK1.out; omega⟩, by repeat (first | exact jB.refl _ | apply jB.step)⟩
        ·rw [if_neg c9] at H
         exact absurd H (by simp)
       ·rw [if_neg c8] at H
        exact absurd H (by simp)
      ·rw [if_neg c6] at H
       have c6b0 : decide (0 < x3_1) = false := decide_eq_false c6
       clear c6
       have H' := iC.mk H
       clear H
       have p159 : 0 ≤ (x3_1 : Int) := of_decide_eq_true asm_
       have q159 : x3_1 < (l0.length : Int) := of_decide_eq_true asm_
       obtain ⟨ad159, A159_1, c159_1, e159, hx159_0, hx159_1, hl159_1, hi159_1⟩ := kS HR0.out x3_1 p159 q159
       cases e159
       have HR159_1 := iC.mk hi159_1
       have HC159_1 := iC.mk hl159_1
       clear hi159_1 hl159_1
       replace p159 := eq_true p159
       replace q159 := eq_true q159
       go_wp2_with (first | (go_at_call 103; (with_reducible refine (stratumref07_SoundFacts.calls k1 _ _ ((iK l0 x3_1).f1) true _ ?side1 ?side2 A4.out).mono ?_); (case side1 => repeat (first | exact HR159_1.out | (with_reducible refine Kd.C_alloc ?_ _) | (with_reducible refine Kd.C_drewN ?_ _) | (with_reducible refine Kd.C_drew ?_))); (case side2 => exact HC159_1.out); rintro e w' ⟨rfl, ⟨nd, rfl⟩⟩; (try first | exact ⟨rfl, _, World.drewN_drewN _ _ _⟩ | exact ⟨rfl, _, Eq.trans (World.drewN_drewN _ _ _) (congrArg (World.drewN _) (Nat.add_assoc _ _ _))⟩)))
       repeat (go_quiet (first | (go_at_call 103; (with_reducible refine (stratumref07_SoundFacts.calls k1 _ _ ((iK l0 x3_1).f1) true _ ?side1 ?side2 A4.out).mono ?_); (case side1 => repeat (first | exact HR159_1.out | (with_reducible refine Kd.C_alloc ?_ _) | (with_reducible refine Kd.C_drewN ?_ _) | (with_reducible refine Kd.C_drew ?_))); (case side2 => exact HC159_1.out); rintro e w' ⟨rfl, ⟨nd, rfl⟩⟩; (try first | exact ⟨rfl, _, World.drewN_drewN _ _ _⟩ | exact ⟨rfl, _, Eq.trans (World.drewN_drewN _ _ _) (congrArg (World.drewN _) (Nat.add_assoc _ _ _))⟩))); try go_wp2_with (first | (go_at_call 103; (with_reducible refine (stratumref07_SoundFacts.calls k1 _ _ ((iK l0 x3_1).f1) true _ ?side1 ?side2 A4.out).mono ?_); (case side1 => repeat (first | exact HR159_1.out | (with_reducible refine Kd.C_alloc ?_ _) | (with_reducible refine Kd.C_drewN ?_ _) | (with_reducible refine Kd.C_drew ?_))); (case side2 => exact HC159_1.out); rintro e w' ⟨rfl, ⟨nd, rfl⟩⟩; (try first | exact ⟨rfl, _, World.drewN_drewN _ _ _⟩ | exact ⟨rfl, _, Eq.trans (World.drewN_drewN _ _ _) (congrArg (World.drewN _) (Nat.add_assoc _ _ _))⟩))))
       go_roundg k1
       case measure => have := HK1.out; omega
       case rel => exact ⟨(wrap64 (x3_1 + 1)), (by first | rfl | (simp; done) | (simp [*]; done)), H', ⟨by have := HK1.out; omega⟩, by repeat (first | exact jB.refl _ | apply jB.step)⟩
     ·replace c5 := Bool.eq_false_iff.mpr c5
      subst c5
      have H1 : (some false) = some r := by rw [if_neg (show ¬ (false = true) by decide)] at H; exact H
      clear H
      have H := H1
      clear H1
      obtain rfl := Option.some.inj H
      have p159 : 0 ≤ (x3_1 : Int) := of_decide_eq_true asm_
      have q159 : x3_1 < (l0.length : Int) := of_decide_eq_true asm_
      obtain ⟨ad159, A159_1, c159_1, e159, hx159_0, hx159_1, hl159_1, hi159_1⟩ := kS HR0.out x3_1 p159 q159
      cases e159
      have HR159_1 := iC.mk hi159_1
      have HC159_1 := iC.mk hl159_1
      clear hi159_1 hl159_1
      replace p159 := eq_true p159
      replace q159 := eq_true q159
      go_wp2_with (first | (go_at_call 103; (with_reducible refine (stratumref07_SoundFacts.calls k1 _ _ ((iK l0 x3_1).f1) false _ ?side1 ?side2 A4.out).mono ?_); (case side1 => repeat (first | exact HR159_1.out | (with_reducible refine Kd.C_alloc ?_ _) | (with_reducible refine Kd.C_drewN ?_ _) | (with_reducible refine Kd.C_drew ?_))); (case side2 => exact HC159_1.out); rintro e w' ⟨rfl, ⟨nd, rfl⟩⟩; (try first | exact ⟨rfl, _, World.drewN_drewN _ _ _⟩ | exact ⟨rfl, _, Eq.trans (World.drewN_drewN _ _ _) (congrArg (World.drewN _) (Nat.add_assoc _ _ _))⟩)))
      repeat (go_quiet (first | (go_at_call 103; (with_reducible refine (stratumref07_SoundFacts.calls k1 _ _ ((iK l0 x3_1).f1) false _ ?side1 ?side2 A4.out).mono ?_); (case side1 => repeat (first | exact HR159_1.out | (with_reducible refine Kd.C_alloc ?_ _) | (with_reducible refine Kd.C_drewN ?_ _) | (with_reducible refine Kd.C_drew ?_))); (case side2 => exact HC159_1.out); rintro e w' ⟨rfl, ⟨nd, rfl⟩⟩; (try first | exact ⟨rfl, _, World.drewN_drewN _ _ _⟩ | exact ⟨rfl, _, Eq.trans (World.drewN_drewN _ _ _) (congrArg (World.drewN _) (Nat.add_assoc _ _ _))⟩))); try go_wp2_with (first | (go_at_call 103; (with_reducible refine (stratumref07_SoundFacts.calls k1 _ _ ((iK l0 x3_1).f1) false _ ?side1 ?side2 A4.out).mono ?_); (case side1 => repeat (first | exact HR159_1.out | (with_reducible refine Kd.C_alloc ?_ _) | (with_reducible refine Kd.C_drewN ?_ _) | (with_reducible refine Kd.C_drew ?_))); (case side2 => exact HC159_1.out); rintro e w' ⟨rfl, ⟨nd, rfl⟩⟩; (try first | exact ⟨rfl, _, World.drewN_drewN _ _ _⟩ | exact ⟨rfl, _, Eq.trans (World.drewN_drewN _ _ _) (congrArg (World.drewN _) (Nat.add_assoc _ _ _))⟩))))
      go_ret
      exact ⟨by first | rfl | (simp; done) | (simp [*]; done), by repeat (first | exact jB.refl _ | apply jB.step)⟩
    ·rw [if_neg c3] at H
     exact absurd H (by simp)
   ·rw [if_neg c2] at H
    have c2b0 : decide (x3_1 < (l0.length : Int)) = false := decide_eq_false c2
    clear c2
    obtain rfl := Option.some.inj H
    go_wp2
    repeat (go_quiet (fail); try go_wp2)
    go_ret
    exact ⟨by first | rfl | (simp; done) | (simp [*]; done), by repeat (first | exact jB.refl _ | apply jB.step)⟩
end Go.Proofs.YtgfkgppomaapiaaGreatDoor.K
end

section
namespace Go.Proofs.YtgfkgppomaapiaaGreatDoor.K
open RowKit YtgfkgppomaapiaaGreatDoorW.PrintWords YtgfkgppomaapiaaGreatDoorW.PrintLast YtgfkgppomaapiaaGreatDoorW.PrintMore My
def NZ (b : Bool) (w : World) (e : Ending) (w' : World) : Prop := ∃ r : Int, e = .returned (.int .i64 r) ∧ decide (0 ≤ r) = b ∧ Below w.heap.size w w'
theorem any_take_succ {α : Type} (p : α → Bool) (z : α) (l : List α) (k : Nat) (h : k < l.length) : (l.take (k + 1)).any p = ((l.take k).any p || p (l.getD k z)) := by
 rw [kP z l k h, List.any_append]
 simp
theorem OX {α : Type} (p : α → Bool) (z : α) (l : List α) (k : Nat) (h : k < l.length) (hp : p (l.getD k z) = true) : l.any p = true := by
 rw [List.any_eq_true]
 refine ⟨l.getD k z, ?_, hp⟩
 rw [List.getD_eq_getElem?_getD, List.getElem?_eq_getElem h]
 exact List.getElem_mem h
theorem JS {α : Type} (p : α → Bool) (l : List α) (h : (l.take l.length).any p = false) : l.any p = false := by rwa [List.take_length] at h
def badV (v : Int) : Bool := decide (v < 0) || decide (9999 < v)
set_option maxHeartbeats 400000 in
theorem QL (v : Int) (w : World) : Calls Tryz.prog 121 #[.int .i64 v] w fun e w' => e = .returned (.bool (badV v)) ∧ w = w' := by
 by_cases h0 : v < 0
 ·have e : badV v = true := by unfold badV; rw [decide_eq_true h0]; rfl
  rw [e]
  clear e
  go_enter Tryz.func121, Tryz.ntmps121
  go_wp2
  go_ret
  exact ⟨rfl, rfl⟩
 ·by_cases h1 : 9999 < v
  ·have e : badV v = true := by unfold badV; rw [decide_eq_true h1]; simp
   rw [e]
   clear e
   go_enter Tryz.func121, Tryz.ntmps121
   go_wp2
   go_ret
   exact ⟨rfl, rfl⟩
  ·have e : badV v = false := by unfold badV; rw [decide_eq_false h0, decide_eq_false h1]; rfl
   rw [e]
   clear e
   go_enter Tryz.func121, Tryz.ntmps121
   go_wp2
   go_ret
   exact ⟨rfl, rfl⟩
set_option maxHeartbeats 1000000 in
theorem UA (A : Option Addr) (c : Nat) (l : List Int) (w : World) (hr : Kd.C (Kd.int .i64) w A l.length l) :
  Calls Tryz.prog 123 #[.slice A l.length c, .func (.func 121) #[] #[]] w (NZ (l.any badV) w) := by
 have hm := kZ hr
 have HR := iC.mk hr
 clear hr
 go_enter Tryz.func123, Tryz.ntmps123
 go_wp2
 go_loopg [5, 8] l.length (fun gg _ s8 wr => ∃ k : Nat, k ≤ l.length ∧ l.length - k ≤ gg ∧ s8 = .int .i64 k ∧ iC (w = wr) ∧ iC ((l.take k).any badV = false))
 case atStart => exact ⟨0, Nat.zero_le _, by omega, rfl, ⟨rfl⟩, ⟨rfl⟩⟩
 case round =>
  obtain ⟨k, hk, hg, rfl, HW, HA⟩ := hrel
  obtain rfl := HW.out
  by_cases hlt : k < l.length
  ·obtain ⟨ad, rfl, hx⟩ := Kd.at_int HR.out (k : Int) (by omega) (by omega)
   have hsn := any_take_succ badV 0 l k hlt
   have hgd : rd l (k : Int) = l.getD k 0 := by unfold rd; rw [Int.toNat_natCast]
   rw [hgd, Int.toNat_natCast] at hx
   clear hgd
   obtain ⟨v, hv⟩ : ∃ v, v = l.getD k 0 := ⟨_, rfl⟩
   rw [← hv] at hx hsn
   cases hq : badV v with
   | true =>
    have HH := iC.mk (OX badV 0 l k hlt (by rw [← hv]; exact hq))
    have hcall := QL v w
    rw [hq] at hcall
    clear hv hsn hq
    go_wp2_with (go_at_call 121; refine hcall.mono ?_; rintro e w' ⟨rfl, rfl⟩)
    go_ret
    exact ⟨k, rfl, by rw [HH.out]; simp, Below.refl _ _⟩
   | false =>
    have HN := iC.mk (show (l.take (k + 1)).any badV = false by rw [hsn, HA.out, hq]; rfl)
    have hcall := QL v w
    rw [hq] at hcall
    clear hv hsn hq
    go_wp2_with (go_at_call 121; refine hcall.mono ?_; rintro e w' ⟨rfl, rfl⟩)
    go_roundg (l.length - (k + 1))
    case measure => omega
    case rel => exact ⟨k + 1, by omega, by omega, by go_num, ⟨rfl⟩, HN⟩
  ·have : k = l.length := by omega
   subst this
   go_wp2
   go_ret
   exact ⟨-1, rfl, by rw [JS _ _ HA.out]; rfl, Below.refl _ _⟩
set_option maxHeartbeats 400000 in
theorem U8 (A : Option Addr) (c : Nat) (l : List Int) (w : World) (hr : Kd.C (Kd.int .i64) w A l.length l) :
  Calls Tryz.prog 120 #[.slice A l.length c, .func (.func 121) #[] #[]] w fun e w' => e = .returned (.bool (l.any badV)) ∧ Below w.heap.size w w' := by
 have hcall := UA A c l w hr
 clear hr
 generalize l.any badV = b at hcall
 go_enter Tryz.func120, Tryz.ntmps120
 go_wp2_with (go_at_call 123; refine hcall.mono ?_; rintro e w' ⟨r, rfl, hr, hb⟩; have HR := iC.mk hr; clear hr)
 go_ret
 exact ⟨by rw [← HR.out]; rfl, hb⟩
theorem YX (f : jR) : oO f = (decide ((f.f0.length : Int) ≤ 4) && !f.f0.any badV) := by
 unfold oO
 congr 1
 ·rw [decide_eq_decide]; omega
 ·rw [List.any_eq_not_all_not, Bool.not_not]
  congr 1
  funext v
  unfold badV
  rw [Bool.eq_iff_iff]
  simp
set_option maxHeartbeats 1000000 in
theorem ZT (A : Option Addr) (c : Nat) (f : jR) (w : World) (hr : Kd.C (Kd.int .i64) w A f.f0.length f.f0) :
  Calls Tryz.prog 112 #[.agg #[.slice A f.f0.length c, .int .i64 f.f1]] w fun e w' => e = .returned (.bool (oO f)) ∧ Below w.heap.size w w' := by
 have hcall := U8 A c f.f0 (w.alloc (.cells #[.slice A f.f0.length c, .int .i64 f.f1] 149)) (Kd.C_below hr (iD (Below.refl _ _) _))
 clear hr
 rw [YX]
 by_cases h4 : (f.f0.length : Int) ≤ 4
 ·rw [decide_eq_true h4, Bool.true_and]
  generalize f.f0.any badV = b at hcall
  go_enter Tryz.func112, Tryz.ntmps112
  go_wp2_with (go_at_call 120; refine hcall.mono ?_; rintro e w' ⟨rfl, hb⟩)
  go_ret
  exact ⟨rfl, iF (iD (Below.refl _ _) _) hb⟩
 ·rw [decide_eq_false h4, Bool.false_and]
  clear hcall
  go_enter Tryz.func112, Tryz.ntmps112
  go_wp2
  go_ret
  exact ⟨rfl, iD (Below.refl _ _) _⟩
set_option maxHeartbeats 400000 in
theorem O7 (A : Option Addr) (c : Nat) (f : jR) (w : World) (hr : Kd.C (Kd.int .i64) w A f.f0.length f.f0) :
  Calls Tryz.prog 111 #[.agg #[.slice A f.f0.length c, .int .i64 f.f1]] w fun e w' => e = .returned (.bool (!oO f)) ∧ Below w.heap.size w w' := by
 have hcall := ZT A c f (w.alloc (.cells #[.slice A f.f0.length c, .int .i64 f.f1] 149)) (Kd.C_below hr (iD (Below.refl _ _) _))
 clear hr
 generalize oO f = b at hcall
 go_enter Tryz.func111, Tryz.ntmps111
 go_wp2_with (go_at_call 112; refine hcall.mono ?_; rintro e w' ⟨rfl, hb⟩)
 go_ret
 exact ⟨rfl, iF (iD (Below.refl _ _) _) hb⟩
def XN : jR := z149
set_option maxHeartbeats 1000000 in
theorem OZ (A : Option Addr) (c : Nat) (l : List jR) (w : World) (hr : Kd.C k149 w A l.length l) :
  Calls Tryz.prog 119 #[.slice A l.length c, .func (.func 111) #[] #[]] w (NZ (l.any fun f => !oO f) w) := by
 have hm := kZ hr
 have HR := iC.mk hr
 clear hr
 go_enter Tryz.func119, Tryz.ntmps119
 go_wp2
 go_loopg [5, 8] l.length (fun gg _ s8 wr => ∃ k : Nat, k ≤ l.length ∧ l.length - k ≤ gg ∧ s8 = .int .i64 k ∧ iC (Below w.heap.size w wr) ∧ iC ((l.take k).any (fun f => !oO f) = false))
 case atStart => exact ⟨0, Nat.zero_le _, by omega, rfl, ⟨Below.refl _ _⟩, ⟨rfl⟩⟩
 case round =>
  obtain ⟨k, hk, hg, rfl, HW, HA⟩ := hrel
  by_cases hlt : k < l.length
  ·obtain ⟨ad, A1, c1, rfl, hx0, hx1, hl1, hC1⟩ := lM (Kd.C_below HR.out HW.out) (k : Int) (by omega) (by omega)
   have hsn := any_take_succ (fun f => !oO f) XN l k hlt
   have hgd : jA l (k : Int) = l.getD k XN := by unfold jA XN; rw [Int.toNat_natCast]
   rw [hgd] at hx0 hx1 hl1 hC1
   rw [Int.toNat_natCast] at hx0 hx1
   clear hgd
   obtain ⟨f, hf⟩ : ∃ v, v = l.getD k XN := ⟨_, rfl⟩
   rw [← hf] at hx0 hx1 hsn hl1 hC1
   have hcall := O7 A1 c1 f wr hC1
   cases hq : (!oO f) with
   | true =>
    have HH := iC.mk (OX (fun f => !oO f) XN l k hlt (by rw [← hf]; exact hq))
    rw [hq] at hcall
    clear hf hsn hq hC1 hl1
    go_wp2_with (go_at_call 111; refine hcall.mono ?_; rintro e w' ⟨rfl, hb⟩)
    go_ret
    exact ⟨k, rfl, by rw [HH.out]; simp, iF HW.out hb⟩
   | false =>
    have HN := iC.mk (show (l.take (k + 1)).any (fun f => !oO f) = false by rw [hsn, HA.out, hq]; rfl)
    rw [hq] at hcall
    clear hf hsn hq hC1 hl1
    go_wp2_with (go_at_call 111; refine hcall.mono ?_; rintro e w' ⟨rfl, hb⟩)
    go_roundg (l.length - (k + 1))
    case measure => omega
    case rel => exact ⟨k + 1, by omega, by omega, by go_num, ⟨iF HW.out hb⟩, HN⟩
  ·have : k = l.length := by omega
   subst this
   go_wp2
   go_ret
   exact ⟨-1, rfl, by rw [JS _ _ HA.out]; rfl, HW.out⟩
set_option maxHeartbeats 400000 in
theorem PW (A : Option Addr) (c : Nat) (l : List jR) (w : World) (hr : Kd.C k149 w A l.length l) :
  Calls Tryz.prog 110 #[.slice A l.length c, .func (.func 111) #[] #[]] w fun e w' => e = .returned (.bool (l.any fun f => !oO f)) ∧ Below w.heap.size w w' := by
 have hcall := OZ A c l w hr
 clear hr
 generalize (l.any fun f => !oO f) = b at hcall
 go_enter Tryz.func110, Tryz.ntmps110
 go_wp2_with (go_at_call 119; refine hcall.mono ?_; rintro e w' ⟨r, rfl, hr, hb⟩; have HR := iC.mk hr; clear hr)
 go_ret
 exact ⟨by rw [← HR.out]; rfl, hb⟩
theorem VH (l : List jR) : mD l = (decide ((l.length : Int) ≤ 200) && !l.any fun f => !oO f) := by
 unfold mD
 congr 1
 ·rw [decide_eq_decide]; omega
 ·rw [List.any_eq_not_all_not, Bool.not_not]
  congr 1
  funext v
  simp
def code_batch.f (l0 : List jR) : Option Bool := some (mD l0)
set_option maxHeartbeats 1000000 in
theorem code_batch.calls (A0 : Option Addr) (c0 : Nat) (l0 : List jR) (r : Bool) (w : World) (hr0 : Kd.C k149 w A0 l0.length l0) (hc0 : l0.length ≤ c0) (h : code_batch.f l0 = some r) :
  Calls Tryz.prog 90 #[.slice A0 l0.length c0] w fun e w' => e = .returned (.bool r) ∧ Below w.heap.size w w' := by
 obtain rfl := Option.some.inj h
 have hm := kZ hr0
 have hcall := PW A0 c0 l0 w hr0
 clear hr0 h
 rw [VH]
 by_cases h4 : (l0.length : Int) ≤ 200
 ·rw [decide_eq_true h4, Bool.true_and]
  generalize (l0.any fun f => !oO f) = b at hcall
  go_enter Tryz.func90, Tryz.ntmps90
  go_wp2_with (go_at_call 110; refine hcall.mono ?_; rintro e w' ⟨rfl, hb⟩)
  go_ret
  exact ⟨rfl, hb⟩
 ·rw [decide_eq_false h4, Bool.false_and]
  clear hcall
  go_enter Tryz.func90, Tryz.ntmps90
  go_wp2
  go_ret
  exact ⟨rfl, Below.refl _ _⟩
end Go.Proofs.YtgfkgppomaapiaaGreatDoor.K
end

section
namespace Go.Proofs.YtgfkgppomaapiaaGreatDoor.K
open Go.RowKit Go.Proofs.YtgfkgppomaapiaaGreatDoorW.PrintWords Go.Proofs.YtgfkgppomaapiaaGreatDoorW.PrintLast Go.Proofs.YtgfkgppomaapiaaGreatDoorW.PrintMore
attribute [local go_sem] jZ jW kK kH
def code_rises.l0 : Nat → Int → List Int → Int → Int → Option (Bool)
 | 0, _, _, _, _ => none
 | k + 1, x3, x6, x7, x8 => if x8 < x7 then (if 0 ≤ x8 then (if x8 < (x6.length : Int) then (if (rd x6 x8) ≤ x3 then (some false) else (if (rd x6 x8) ≥ 6 then (some false) else (code_rises.l0 k (rd x6 x8) x6 x7 (wrap64 (x8 + 1))))) else (none)) else (none)) else (some true)
def code_rises.f (k : Nat) (l0 : List Int) : Option (Bool) := code_rises.l0 k (-1) l0 (l0.length : Int) 0
set_option maxHeartbeats 8000000 in
set_option maxRecDepth 100000 in
theorem code_rises.calls (k : Nat) (A0 : Option Addr) (c0 : Nat) (l0 : List Int) (r : Bool) (w : World) (hr0 : Kd.C (Kd.int .i64) w A0 l0.length l0) (hc0 : l0.length ≤ c0) (h : code_rises.f k l0 = some r) :
  Calls Tryz.prog 89 #[.slice A0 l0.length c0] w fun e w' => e = .returned (.bool r) ∧ jB w w' := by
 have HR0 := iC.mk hr0
 have HC0 := iC.mk hc0
 clear hr0 hc0
 have H : (code_rises.l0 k (-1) l0 (l0.length : Int) 0) = some r := h
 clear h
 have H' := iC.mk H
 clear H
 go_enter Tryz.func89, Tryz.ntmps89
 go_wp2
 go_loopg [3, 8] k (fun kq v3 v8 w' => ∃ (x3_1 : Int) (x8_1 : Int), v3 = .int .i64 x3_1 ∧ v8 = .int .i64 x8_1 ∧ iC (code_rises.l0 kq x3_1 l0 (l0.length : Int) x8_1 = some r) ∧ iC (kq ≤ k) ∧ jB w w')
 case atStart => exact ⟨((-1)), (0), (by first | rfl | (simp; done) | (simp [*]; done)), (by first | rfl | (simp; done) | (simp [*]; done)), H', ⟨Nat.le_refl _⟩, by repeat (first | exact jB.refl _ | apply jB.step)⟩
 case round =>
  clear H'
  obtain ⟨x3_1, x8_1, rfl, rfl, HA, HK1, ⟨m1, rfl⟩⟩ := hrel
  cases gk with
  | zero => exact absurd HA.out (by simp [code_rises.l0])
  | succ k1 =>
   have H := HA.out
   clear HA
   simp only [code_rises.l0] at H
   by_cases c2 : x8_1 < (l0.length : Int)
   ·rw [if_pos c2] at H
    have c2b0 : decide (x8_1 < (l0.length : Int)) = true := decide_eq_true c2
    clear c2
    by_cases c3 : 0 ≤ x8_1
    ·rw [if_pos c3] at H
     have c3b0 : decide (0 ≤ x8_1) = true := decide_eq_true c3
     clear c3
     by_cases c4 : x8_1 < (l0.length : Int)
     ·rw [if_pos c4] at H
      have c4b0 : decide (x8_1 < (l0.length : Int)) = true := decide_eq_true c4
      clear c4
      by_cases c5 : (rd l0 x8_1) ≤ x3_1
      ·rw [if_pos c5] at H
       have c5b0 : decide ((rd l0 x8_1) ≤ x3_1) = true := decide_eq_true c5
       clear c5
       obtain rfl := Option.some.inj H
       have p103 : 0 ≤ (x8_1 : Int) := of_decide_eq_true asm_
       have q103 : x8_1 < (l0.length : Int) := of_decide_eq_true asm_
       obtain ⟨ad103, e103, hx103_0⟩ := Kd.at_int HR0.out x8_1 p103 q103
       cases e103
       replace p103 := eq_true p103
       replace q103 := eq_true q103
       go_wp2
       go_ret
       exact ⟨by first | rfl | (simp; done) | (simp [*]; done), by repeat (first | exact jB.refl _ | apply jB.step)⟩
      ·rw [if_neg c5] at H
       have c5b0 : decide ((rd l0 x8_1) ≤ x3_1) = false := decide_eq_false c5
       clear c5
       by_cases c6 : (rd l0 x8_1) ≥ 6
       ·rw [if_pos c6] at H
        have c6b0 : decide (6 ≤ (rd l0 x8_1)) = true := decide_eq_true c6
        clear c6
        obtain rfl := Option.some.inj H
        have p103 : 0 ≤ (x8_1 : Int) := of_decide_eq_true asm_
        have q103 : x8_1 < (l0.length : Int) := of_decide_eq_true asm_
        obtain ⟨ad103, e103, hx103_0⟩ := Kd.at_int HR0.out x8_1 p103 q103
        cases e103
        replace p103 := eq_true p103
        replace q103 := eq_true q103
        go_wp2
        go_ret
        exact ⟨by first | rfl | (simp; done) | (simp [*]; done), by repeat (first | exact jB.refl _ | apply jB.step)⟩
       ·rw [if_neg c6] at H
        have c6b0 : decide (6 ≤ (rd l0 x8_1)) = false := decide_eq_false c6
        clear c6
        have H' := iC.mk H
        clear H
        have p103 : 0 ≤ (x8_1 : Int) := of_decide_eq_true asm_
        have q103 : x8_1 < (l0.length : Int) := of_decide_eq_true asm_
        obtain ⟨ad103, e103, hx103_0⟩ := Kd.at_int HR0.out x8_1 p103 q103
        cases e103
        replace p103 := eq_true p103
        replace q103 := eq_true q103
        go_wp2
        go_roundg k1
        case measure => have := HK1.out; omega
        case rel => exact ⟨(rd l0 x8_1), (wrap64 (x8_1 + 1)), (by first | rfl | (simp; done) | (simp [*]; done)), (by first | rfl | (simp; done) | (simp [*]; done)), H', ⟨by have := HK1.out; omega⟩, by repeat (first | exact jB.refl _ | apply jB.step)⟩
     ·rw [if_neg c4] at H
      exact absurd H (by simp)
    ·rw [if_neg c3] at H
     exact absurd H (by simp)
   ·rw [if_neg c2] at H
    have c2b0 : decide (x8_1 < (l0.length : Int)) = false := decide_eq_false c2
    clear c2
    obtain rfl := Option.some.inj H
    go_wp2
    go_ret
    exact ⟨by first | rfl | (simp; done) | (simp [*]; done), by repeat (first | exact jB.refl _ | apply jB.step)⟩
end Go.Proofs.YtgfkgppomaapiaaGreatDoor.K
end

section
namespace Go.Proofs.YtgfkgppomaapiaaGreatDoor.K
open Go.RowKit Go.Proofs.YtgfkgppomaapiaaGreatDoorW.PrintWords Go.Proofs.YtgfkgppomaapiaaGreatDoorW.PrintLast Go.Proofs.YtgfkgppomaapiaaGreatDoorW.PrintMore
attribute [local go_sem] jZ jW kK kH
def code_history.l0 : Nat → List (S114) → List (S114) → Int → Int → Option (Bool)
 | 0, _, _, _, _ => none
 | k + 1, x0, x5, x6, x7 => if x7 < x6 then (if 0 ≤ x7 then (if x7 < (x5.length : Int) then ((code_batch.f ((iK x5 x7).f1)).bind fun t106 => (if t106 = true then (if x7 > 0 then (if 0 ≤ (wrap64 (x7 - 1)) then (if (wrap64 (x7 - 1)) < (x0.length : Int) then (if ((iK x5 x7).f0) ≤ ((iK x0 (wrap64 (x7 - 1))).f0) then (some false) else (code_history.l0 k x0 x5 x6 (wrap64 (x7 + 1)))) else (none)) else (none)) else (code_history.l0 k x0 x5 x6 (wrap64 (x7 + 1)))) else (some false))) else (none)) else (none)) else (some (decide ((x0.length : Int) ≤ 5000)))
def code_history.f (k : Nat) (l0 : List (S114)) : Option (Bool) := code_history.l0 k l0 l0 (l0.length : Int) 0
def code_history.T4 : Bool × List (List Nat × List Nat) := (true, [([], []), ([0], [0]), ([1], [1]), ([2], [2]), ([3, 2], [3]), ([4], [4]), ([5, 4], [4, 5]), ([6, 4, 4], [4, 6]), ([7], [7]), ([8, 7], [7, 8]), ([7], [7]), ([7], [7]), ([11, 7], [7, 11]), ([10, 12, 7], [7, 10, 12]), ([13, 7], [7, 13]), ([14, 7], [7, 14]), ([9, 15, 7], [7, 9, 15]), ([7, 16, 4], [4, 7, 16]), ([4, 17], [4, 17])])
def code_history.B4 : List Nat := [0, 1, 3, 7, 15, 31, 63, 127, 255, 511, 255, 255, 2303, 7423, 15615, 31999, 65535, 131071, 262143]
theorem code_history.tab4 : rtab .any (opsOf Tryz.f94 4) = code_history.T4 := by kernel_rfl
theorem code_history.bits4 : nV code_history.T4.2 code_history.B4 = true := by kernel_rfl
set_option maxHeartbeats 8000000 in
set_option maxRecDepth 100000 in
theorem code_history.calls (k : Nat) (A0 : Option Addr) (c0 : Nat) (l0 : List (S114)) (r : Bool) (w : World) (hr0 : Kd.C k114 w A0 l0.length l0) (hc0 : l0.length ≤ c0) (h : code_history.f k l0 = some r) :
  Calls Tryz.prog 94 #[.slice A0 l0.length c0] w fun e w' => e = .returned (.bool r) ∧ Below w.heap.size w w' := by
 have hu114 := Tryz.underlying114
 have HR0 := iC.mk hr0
 have HC0 := iC.mk hc0
 clear hr0 hc0
 have HB := iC.mk (Below.refl w.heap.size w)
 have H : (code_history.l0 k l0 l0 (l0.length : Int) 0) = some r := h
 clear h
 have H' := iC.mk H
 clear H
 go_enter Tryz.func94, Tryz.ntmps94
 go_wp2
 go_loopg [7] k (fun kq v7 w' => ∃ (x7_1 : Int), v7 = .int .i64 x7_1 ∧ iC (code_history.l0 kq l0 l0 (l0.length : Int) x7_1 = some r) ∧ iC (kq ≤ k) ∧ iC (Below w.heap.size w w'))
 case atStart => exact ⟨(0), (by first | rfl | (simp; done) | (simp [*]; done)), H', ⟨Nat.le_refl _⟩, ⟨hb_⟩⟩
 case round =>
  clear H'
  obtain ⟨x7_1, rfl, HA, HK1, HB⟩ := hrel
  cases gk with
  | zero => exact absurd HA.out (by simp [code_history.l0])
  | succ k1 =>
   have H := HA.out
   clear HA
   simp only [code_history.l0] at H
   by_cases c2 : x7_1 < (l0.length : Int)
   ·rw [if_pos c2] at H
    have c2b0 : decide (x7_1 < (l0.length : Int)) = true := decide_eq_true c2
    clear c2
    by_cases c3 : 0 ≤ x7_1
    ·rw [if_pos c3] at H
     have c3b0 : decide (0 ≤ x7_1) = true := decide_eq_true c3
     clear c3
     by_cases c4 : x7_1 < (l0.length : Int)
     ·rw [if_pos c4] at H
      have c4b0 : decide (x7_1 < (l0.length : Int)) = true := decide_eq_true c4
      clear c4
      replace H := Option.bind_eq_some_iff.mp H
      obtain ⟨t106, A50, H⟩ := H
      replace H : (if t106 = true then (if x7_1 > 0 then (if 0 ≤ (wrap64 (x7_1 - 1)) then (if (wrap64 (x7_1 - 1)) < (l0.length : Int) then (if ((iK l0 x7_1).f0) ≤ ((iK l0 (wrap64 (x7_1 - 1))).f0) then (some false) else (code_history.l0 k1 l0 l0 (l0.length : Int) (wrap64 (x7_1 + 1)))) else (none)) else (none)) else (code_history.l0 k1 l0 l0 (l0.length : Int) (wrap64 (x7_1 + 1)))) else (some false)) = some r := H
      have A5 := iC.mk A50
      clear A50
      by_cases c6 : t106 = true
      ·subst c6
       have H1 : (if x7_1 > 0 then (if 0 ≤ (wrap64 (x7_1 - 1)) then (if (wrap64 (x7_1 - 1)) < (l0.length : Int) then (if ((iK l0 x7_1).f0) ≤ ((iK l0 (wrap64 (x7_1 - 1))).f0) then (some false) else (code_history.l0 k1 l0 l0 (l0.length : Int) (wrap64 (x7_1 + 1)))) else (none)) else (none)) else (code_history.l0 k1 l0 l0 (l0.length : Int) (wrap64 (x7_1 + 1)))) = some r := by rw [if_pos rfl] at H; exact H
       clear H
       have H := H1
       clear H1
       by_cases c7 : x7_1 > 0
       ·rw [if_pos c7] at H
        have c7b0 : decide (0 < x7_1) = true := decide_eq_true c7
        clear c7
        obtain ⟨ji8, hji8⟩ : ∃ j_ : Int, (wrap64 (x7_1 - 1)) = j_ := ⟨_, rfl⟩
        replace H : (if 0 ≤ (ji8) then (if (ji8) < (l0.length : Int) then (if ((iK l0 x7_1).f0) ≤ ((iK l0 (ji8)).f0) then (some false) else (code_history.l0 k1 l0 l0 (l0.length : Int) (wrap64 (x7_1 + 1)))) else (none)) else (none)) = some r := by first | (rw [hji8] at H; exact H) | (simp only [hji8] at H ⊢; exact H)
        (try rw [hji8] at A5)
        have hji8w : (IntKind.i64.wrap (x7_1 - 1)) = ji8 := (iR _).trans hji8
        by_cases c9 : 0 ≤ (ji8)
        ·rw [if_pos c9] at H
         have c9b0 : decide (0 ≤ (ji8)) = true := decide_eq_true c9
         clear c9
         by_cases c10 : (ji8) < (l0.length : Int)
         ·rw [if_pos c10] at H
          have c10b0 : decide ((ji8) < (l0.length : Int)) = true := decide_eq_true c10
          clear c10
          by_cases c11 : ((iK l0 x7_1).f0) ≤ ((iK l0 (ji8)).f0)
          ·rw [if_pos c11] at H
           have c11b0 : decide (((iK l0 x7_1).f0) ≤ ((iK l0 (ji8)).f0)) = true := decide_eq_true c11
           clear c11
           obtain rfl := Option.some.inj H
           have p104 : 0 ≤ (x7_1 : Int) := of_decide_eq_true asm_
           have q104 : x7_1 < (l0.length : Int) := of_decide_eq_true asm_
           obtain ⟨ad104, A104_1, c104_1, e104, hx104_0, hx104_1, hl104_1, hi104_1⟩ := kS HR0.out x7_1 p104 q104
           cases e104
           replace hx104_0 := (HB.out.cell (World.block_lt_of_cell? w _ hx104_0)).trans hx104_0
           replace hx104_1 := (HB.out.cell (World.block_lt_of_cell? w _ hx104_1)).trans hx104_1
           have HR104_1 := iC.mk hi104_1
           have HC104_1 := iC.mk hl104_1
           clear hi104_1 hl104_1
           replace p104 := eq_true p104
           replace q104 := eq_true q104
           try go_wp2_with (first | ((with_reducible refine kU (N := 4) rfl ?_); refine kG ?hg (N := 4) ?hd (cs := #[.int .u32 0, .slice none 0 0]) (t := 114) ?hr ?_; (case hd => rfl); (case hg => rfl); (case hr => first | (go_simp; done) | (go_simp; rfl)); intro gb105 hg w12 hbox hb; have n0_ := iC.mk (iF hb_ hb); have n1_ := iC.mk (hbox); have n2_ := iC.mk ((by rw [hg]; exact (iV hb_) : w.heap.size ≤ gb105)); have n3_ := iC.mk ((by rw [hg]; exact (iV hb_) : w.heap.size ≤ gb105)); clear HB; have HB := n0_; have BK105 := n1_; have GW105 := n2_; have GE105 := n3_; clear n0_ n1_ n2_ n3_; clear hb hbox hg; have hcz13_0 : w12.cell? ⟨gb105, 0, none⟩ = some (.int .u32 0) := (iH BK105.out 0).trans rfl; have hcz13_1 : w12.cell? ⟨gb105, 1, none⟩ = some (.slice none 0 0) := (iH BK105.out 1).trans rfl; have hfz13_0 := iG BK105.out 0; have hfz13_1 := iG BK105.out 1))
           have n0_ : iC (((w12.setCell ⟨gb105, 0, none⟩ (.int .u32 ((iK l0 x7_1).f0))).setCell ⟨gb105, 1, none⟩ (.slice A104_1 ((iK l0 x7_1).f1).length c104_1)).heap[gb105]? = some (.cells #[.int .u32 ((iK l0 x7_1).f0), .slice A104_1 ((iK l0 x7_1).f1).length c104_1] 114 (0, 0))) := ⟨by (with_reducible repeat (first | refine lT ?_ _ | refine lG ?_ | refine lL ?_ _)); refine lJ (cs := #[.int .u32 ((iK l0 x7_1).f0), .slice none 0 0]) ?_ 1 _ rfl; (with_reducible repeat (first | refine lT ?_ _ | refine lG ?_ | refine lL ?_ _)); refine lJ (cs := #[.int .u32 0, .slice none 0 0]) ?_ 0 _ rfl; (with_reducible repeat (first | refine lT ?_ _ | refine lG ?_ | refine lL ?_ _)); exact BK105.out⟩
           have n1_ : iC (Below w.heap.size w ((w12.setCell ⟨gb105, 0, none⟩ (.int .u32 ((iK l0 x7_1).f0))).setCell ⟨gb105, 1, none⟩ (.slice A104_1 ((iK l0 x7_1).f1).length c104_1))) := ⟨by repeat (first | (with_reducible first | exact HB.out | apply iD | apply iE | apply iT | refine iM ?_ GE105.out) | exact HB.out)⟩
           (try clear BK105)
           (try clear HB)
           generalize ((w12.setCell ⟨gb105, 0, none⟩ (.int .u32 ((iK l0 x7_1).f0))).setCell ⟨gb105, 1, none⟩ (.slice A104_1 ((iK l0 x7_1).f1).length c104_1)) = w14 at n0_ n1_ ⊢
           have BK105 := n0_
           have HB := n1_
           clear n0_ n1_
           have n0_ := iC.mk (lG BK105.out)
           have n1_ := iC.mk (iT HB.out)
           clear BK105
           clear HB
           have BK105 := n0_
           have HB := n1_
           clear n0_ n1_
           have p107 : 0 ≤ ((ji8) : Int) := of_decide_eq_true asm_
           have q107 : (ji8) < (l0.length : Int) := of_decide_eq_true asm_
           obtain ⟨ad107, A107_1, c107_1, e107, hx107_0, hx107_1, hl107_1, hi107_1⟩ := kS HR0.out (ji8) p107 q107
           have hw107_1 := hx107_1
           have hw107_0 := hx107_0
           obtain rfl : ad104 = ad107 := (by injection e107)
           replace hx107_0 := (HB.out.cell (World.block_lt_of_cell? w _ hx107_0)).trans hx107_0
           replace hx107_1 := (HB.out.cell (World.block_lt_of_cell? w _ hx107_1)).trans hx107_1
           have HR107_1 := iC.mk hi107_1
           have HC107_1 := iC.mk hl107_1
           clear hi107_1 hl107_1
           replace p107 := eq_true p107
           replace q107 := eq_true q107
           refine vP (n := 19) (S := fun w' => w'.cell? ⟨gb105, 0, none⟩ = some (.int .u32 ((iK l0 x7_1).f0)) ∧ w'.cell? ⟨gb105, 1, none⟩ = some (.slice A104_1 ((iK l0 x7_1).f1).length c104_1) ∧ w'.cell? (ad104.add (((ji8)).toNat * 2)) = some (.int .u32 ((iK l0 (ji8)).f0)) ∧ w'.cell? ⟨(ad104.add (((ji8)).toNat * 2)).block, (ad104.add (((ji8)).toNat * 2)).off + 1, none⟩ = some (.slice A107_1 ((iK l0 (ji8)).f1).length c107_1)) (ds := []) #[false, false, false, false, false, false, false, false, false, false, false, false, false, false, false, false, false, false, false] (by kernel_rfl) rfl rfl ⟨(iH BK105.out 0).trans rfl, (iH BK105.out 1).trans rfl, ((HB.out.cell (World.block_lt_of_cell? w _ hw107_0)).trans hw107_0), ((HB.out.cell (World.block_lt_of_cell? w _ hw107_1)).trans hw107_1)⟩ (fun hHeld => ?_); refine pG code_history.tab4 code_history.bits4 (fun HT_ HW_ => ?_)
           generalize w14.drew = w15 at BK105 HB HR107_1 hx107_0 hx107_1 hHeld ⊢
           refine jT (i := 0) (N := some 12) (v := ?_) (a' := ?_) #[true, false, false, false, false, false, false, false, false, false, false, false, false, false, false, false, false, false, false] rfl rfl (jI HT_.out (by kernel_rfl)) (fun _ _ _ h => h) (Or.inl ⟨by rfl, ?_⟩) ?_ ?_
           rotate_left
           ·intro w'
            go_simp
            with_reducible rfl
           rotate_left
           ·simp only [Act.put, List.setIfInBounds_toArray, List.set_cons_zero, List.set_cons_succ, iR, jK]
            rfl
           refine JZ (i := 1) (N := some 13) (v := ?_) (a' := ?_) #[true, true, false, false, false, false, false, false, false, false, false, false, false, false, false, false, false, false, false] rfl rfl (oM HT_.out HW_.out (by kernel_rfl)) (fun _ _ _ h => h) (Or.inl ⟨by rfl, ?_⟩) hHeld ?_ ?_
           rotate_left
           ·rintro w' ⟨s0, s1, s2, s3⟩
            go_simp
            with_reducible rfl
           rotate_left
           ·simp only [Act.put, List.setIfInBounds_toArray, List.set_cons_zero, List.set_cons_succ, iR, jK]
            rfl
           refine one_ (i := 2) (N := some 14) #[true, true, true, false, false, false, false, false, false, false, false, false, false, false, false, false, false, false, false] rfl rfl (o5 HT_.out (by kernel_rfl)) (by decide) (fun K hK => ?_)
           refine qL Tryz.func90 (by kernel_rfl) rfl #[.slice A104_1 ((iK l0 x7_1).f1).length c104_1] (by rfl) rfl rfl (by (try simp only [List.map_toArray, List.map_cons, List.map_nil]); first | done | rfl | (simp only [List.length_drop, List.length_take]; rfl)) ?_
           with_reducible refine (code_batch.calls _ _ ((iK l0 x7_1).f1) true _ ?side1 ?side2 A5.out).mono ?_
           (case side1 => repeat (first | exact (Kd.C_below HR104_1.out HB.out) | (with_reducible refine Kd.C_alloc ?_ _) | (with_reducible refine Kd.C_drewN ?_ _) | (with_reducible refine Kd.C_drew ?_)))
           (case side2 => exact HC104_1.out)
           rintro e w16 ⟨rfl, hb⟩
           refine ⟨_, rfl, ?_⟩
           have n0_ := iC.mk (pK (g := gb105) (o := .cells #[.int .u32 ((iK l0 x7_1).f0), .slice A104_1 ((iK l0 x7_1).f1).length c104_1] 114 (0, 0)) (bk_ BK105.out) hb)
           have n1_ := iC.mk (iF (by repeat (first | (with_reducible first | exact HB.out | apply iD | apply iE | apply iT | refine iM ?_ GE105.out) | exact HB.out)) hb)
           clear BK105
           clear HB
           have BK105 := n0_
           have HB := n1_
           clear n0_ n1_
           (try clear hb)
           (try clear hb2)
           (try clear hk)
           (try clear hi)
           refine hK.out _ _ ⟨(iH BK105.out 0).trans rfl, (iH BK105.out 1).trans rfl, ((HB.out.cell (World.block_lt_of_cell? w _ hw107_0)).trans hw107_0), ((HB.out.cell (World.block_lt_of_cell? w _ hw107_1)).trans hw107_1)⟩ (fun hHeld => ?_)
           clear hK K
           refine nG (a' := ?_) ?_ ?_
           rotate_left
           ·show Act.put _ (some 14) _ = _
            simp only [Act.put, List.setIfInBounds_toArray, List.set_cons_zero, List.set_cons_succ, iR, jK]
            rfl
           refine jT (i := 3) (N := some 15) (v := ?_) (a' := ?_) #[true, true, true, true, false, false, false, false, false, false, false, false, false, false, false, false, false, false, false] rfl rfl (jI HT_.out (by kernel_rfl)) (fun _ _ _ h => h) (Or.inl ⟨by rfl, ?_⟩) ?_ ?_
           rotate_left
           ·intro w'
            go_simp
            with_reducible rfl
           rotate_left
           ·simp only [Act.put, List.setIfInBounds_toArray, List.set_cons_zero, List.set_cons_succ, iR, jK]
            rfl
           refine jT (i := 4) (N := some 16) (v := ?_) (a' := ?_) #[true, true, true, true, true, false, false, false, false, false, false, false, false, false, false, false, false, false, false] rfl rfl (jI HT_.out (by kernel_rfl)) (fun _ _ _ h => h) (Or.inl ⟨by rfl, ?_⟩) ?_ ?_
           rotate_left
           ·intro w'
            go_simp
            with_reducible rfl
           rotate_left
           ·simp only [Act.put, List.setIfInBounds_toArray, List.set_cons_zero, List.set_cons_succ, iR, jK]
            rfl
           refine jT (i := 5) (N := some 17) (v := ?_) (a' := ?_) #[true, true, true, true, true, true, false, false, false, false, false, false, false, false, false, false, false, false, false] rfl rfl (jI HT_.out (by kernel_rfl)) (fun _ _ _ h => h) (Or.inl ⟨by rfl, ?_⟩) ?_ ?_
           rotate_left
           ·intro w'
            go_simp
            with_reducible rfl
           rotate_left
           ·simp only [Act.put, List.setIfInBounds_toArray, List.set_cons_zero, List.set_cons_succ, iR, jK]
            rfl
           refine jT (i := 6) (N := some 18) (v := ?_) (a' := ?_) #[true, true, true, true, true, true, true, false, false, false, false, false, false, false, false, false, false, false, false] rfl rfl (jI HT_.out (by kernel_rfl)) (fun _ _ _ h => h) (Or.inl ⟨by rfl, ?_⟩) ?_ ?_
           rotate_left
           ·intro w'
            go_simp
            with_reducible rfl
           rotate_left
           ·simp only [Act.put, List.setIfInBounds_toArray, List.set_cons_zero, List.set_cons_succ, iR, jK]
            rfl
           refine jT (i := 7) (N := some 19) (v := ?_) (a' := ?_) #[true, true, true, true, true, true, true, true, false, false, false, false, false, false, false, false, false, false, false] rfl rfl (jI HT_.out (by kernel_rfl)) (fun _ _ _ h => h) (Or.inl ⟨by rfl, ?_⟩) ?_ ?_
           rotate_left
           ·intro w'
            go_simp
            with_reducible rfl
           rotate_left
           ·simp only [Act.put, List.setIfInBounds_toArray, List.set_cons_zero, List.set_cons_succ, iR, jK]
            rfl
           refine jT (i := 8) (N := some 20) (v := ?_) (a' := ?_) #[true, true, true, true, true, true, true, true, true, false, false, false, false, false, false, false, false, false, false] rfl rfl (jI HT_.out (by kernel_rfl)) (fun _ _ _ h => h) (Or.inl ⟨by rfl, ?_⟩) ?_ ?_
           rotate_left
           ·intro w'
            go_simp
            with_reducible rfl
           rotate_left
           ·simp only [Act.put, List.setIfInBounds_toArray, List.set_cons_zero, List.set_cons_succ, iR, jK]
            rfl
           refine jT (i := 10) (N := some 22) (v := ?_) (a' := ?_) #[true, true, true, true, true, true, true, true, true, false, true, false, false, false, false, false, false, false, false] rfl rfl (jI HT_.out (by kernel_rfl)) (fun _ _ _ h => h) (Or.inl ⟨by rfl, ?_⟩) ?_ ?_
           rotate_left
           ·intro w'
            go_simp
            with_reducible rfl
           rotate_left
           ·simp only [Act.put, List.setIfInBounds_toArray, List.set_cons_zero, List.set_cons_succ, iR, jK]
            rfl
           refine jT (i := 11) (N := some 23) (v := ?_) (a' := ?_) #[true, true, true, true, true, true, true, true, true, false, true, true, false, false, false, false, false, false, false] rfl rfl (jI HT_.out (by kernel_rfl)) (fun _ _ _ h => h) (Or.inl ⟨by rfl, ?_⟩) ?_ ?_
           rotate_left
           ·intro w'
            go_simp
            with_reducible rfl
           rotate_left
           ·simp only [Act.put, List.setIfInBounds_toArray, List.set_cons_zero, List.set_cons_succ, iR, jK]
            rfl
           refine jT (i := 12) (N := some 24) (v := ?_) (a' := ?_) #[true, true, true, true, true, true, true, true, true, false, true, true, true, false, false, false, false, false, false] rfl rfl (jI HT_.out (by kernel_rfl)) (fun _ _ _ h => h) (Or.inl ⟨by rfl, ?_⟩) ?_ ?_
           rotate_left
           ·intro w'
            go_simp
            with_reducible rfl
           rotate_left
           ·simp only [Act.put, List.setIfInBounds_toArray, List.set_cons_zero, List.set_cons_succ, iR, jK]
            rfl
           refine jT (i := 13) (N := some 25) (v := ?_) (a' := ?_) #[true, true, true, true, true, true, true, true, true, false, true, true, true, true, false, false, false, false, false] rfl rfl (jI HT_.out (by kernel_rfl)) (fun _ _ _ h => h) (Or.inl ⟨by rfl, ?_⟩) ?_ ?_
           rotate_left
           ·intro w'
            go_simp
            with_reducible rfl
           rotate_left
           ·simp only [Act.put, List.setIfInBounds_toArray, List.set_cons_zero, List.set_cons_succ, iR, jK]
            rfl
           refine jT (i := 14) (N := some 26) (v := ?_) (a' := ?_) #[true, true, true, true, true, true, true, true, true, false, true, true, true, true, true, false, false, false, false] rfl rfl (jI HT_.out (by kernel_rfl)) (fun _ _ _ h => h) (Or.inl ⟨by rfl, ?_⟩) ?_ ?_
           rotate_left
           ·intro w'
            go_simp
            with_reducible rfl
           rotate_left
           ·simp only [Act.put, List.setIfInBounds_toArray, List.set_cons_zero, List.set_cons_succ, iR, jK]
            rfl
           refine JZ (i := 9) (N := some 21) (v := ?_) (a' := ?_) #[true, true, true, true, true, true, true, true, true, true, true, true, true, true, true, false, false, false, false] rfl rfl (oM HT_.out HW_.out (by kernel_rfl)) (fun _ _ _ h => h) (Or.inl ⟨by rfl, ?_⟩) hHeld ?_ ?_
           rotate_left
           ·rintro w' ⟨s0, s1, s2, s3⟩
            go_simp
            with_reducible rfl
           rotate_left
           ·simp only [Act.put, List.setIfInBounds_toArray, List.set_cons_zero, List.set_cons_succ, iR, jK]
            rfl
           refine JZ (i := 15) (N := some 27) (v := ?_) (a' := ?_) #[true, true, true, true, true, true, true, true, true, true, true, true, true, true, true, true, false, false, false] rfl rfl (oM HT_.out HW_.out (by kernel_rfl)) (fun _ _ _ h => h) (Or.inl ⟨by rfl, ?_⟩) hHeld ?_ ?_
           rotate_left
           ·rintro w' ⟨s0, s1, s2, s3⟩
            go_simp
            with_reducible rfl
           rotate_left
           ·simp only [Act.put, List.setIfInBounds_toArray, List.set_cons_zero, List.set_cons_succ, iR, jK]
            rfl
           refine jT (i := 16) (N := some 28) (v := ?_) (a' := ?_) #[true, true, true, true, true, true, true, true, true, true, true, true, true, true, true, true, true, false, false] rfl rfl (jI HT_.out (by kernel_rfl)) (fun _ _ _ h => h) (Or.inl ⟨by rfl, ?_⟩) ?_ ?_
           rotate_left
           ·intro w'
            go_simp
            with_reducible rfl
           rotate_left
           ·simp only [Act.put, List.setIfInBounds_toArray, List.set_cons_zero, List.set_cons_succ, iR, jK]
            rfl
           refine jT (i := 17) (N := some 29) (v := ?_) (a' := ?_) #[true, true, true, true, true, true, true, true, true, true, true, true, true, true, true, true, true, true, false] rfl rfl (jI HT_.out (by kernel_rfl)) (fun _ _ _ h => h) (Or.inl ⟨by rfl, ?_⟩) ?_ ?_
           rotate_left
           ·intro w'
            go_simp
            with_reducible rfl
           rotate_left
           ·simp only [Act.put, List.setIfInBounds_toArray, List.set_cons_zero, List.set_cons_succ, iR, jK]
            rfl
           refine jT (i := 18) (N := some 30) (v := ?_) (a' := ?_) #[true, true, true, true, true, true, true, true, true, true, true, true, true, true, true, true, true, true, true] rfl rfl (jI HT_.out (by kernel_rfl)) (fun _ _ _ h => h) (Or.inl ⟨by rfl, ?_⟩) ?_ ?_
           rotate_left
           ·intro w'
            go_simp
            with_reducible rfl
           rotate_left
           ·simp only [Act.put, List.setIfInBounds_toArray, List.set_cons_zero, List.set_cons_succ, iR, jK]
            rfl
           refine OJ (uX HT_.out (by kernel_rfl)) ?_
           try go_wp2
           go_ret
           exact ⟨by first | rfl | (simp [jF, jE] <;> rfl) | (simp only [← hji8]; first | rfl | (simp [jF, jE] <;> rfl)) | (simp [*, jF, jE] <;> rfl), by repeat (first | (with_reducible first | exact HB.out | apply iD | apply iE | apply iT | refine iM ?_ GE105.out) | exact HB.out)⟩
          ·rw [if_neg c11] at H
           have c11b0 : decide (((iK l0 x7_1).f0) ≤ ((iK l0 (ji8)).f0)) = false := decide_eq_false c11
           clear c11
           have H' := iC.mk H
           clear H
           have p104 : 0 ≤ (x7_1 : Int) := of_decide_eq_true asm_
           have q104 : x7_1 < (l0.length : Int) := of_decide_eq_true asm_
           obtain ⟨ad104, A104_1, c104_1, e104, hx104_0, hx104_1, hl104_1, hi104_1⟩ := kS HR0.out x7_1 p104 q104
           cases e104
           replace hx104_0 := (HB.out.cell (World.block_lt_of_cell? w _ hx104_0)).trans hx104_0
           replace hx104_1 := (HB.out.cell (World.block_lt_of_cell? w _ hx104_1)).trans hx104_1
           have HR104_1 := iC.mk hi104_1
           have HC104_1 := iC.mk hl104_1
           clear hi104_1 hl104_1
           replace p104 := eq_true p104
           replace q104 := eq_true q104
           try go_wp2_with (first | ((with_reducible refine kU (N := 4) rfl ?_); refine kG ?hg (N := 4) ?hd (cs := #[.int .u32 0, .slice none 0 0]) (t := 114) ?hr ?_; (case hd => rfl); (case hg => rfl); (case hr => first | (go_simp; done) | (go_simp; rfl)); intro gb105 hg w17 hbox hb; have n0_ := iC.mk (iF hb_ hb); have n1_ := iC.mk (hbox); have n2_ := iC.mk ((by rw [hg]; exact (iV hb_) : w.heap.size ≤ gb105)); have n3_ := iC.mk ((by rw [hg]; exact (iV hb_) : w.heap.size ≤ gb105)); clear HB; have HB := n0_; have BK105 := n1_; have GW105 := n2_; have GE105 := n3_; clear n0_ n1_ n2_ n3_; clear hb hbox hg; have hcz18_0 : w17.cell? ⟨gb105, 0, none⟩ = some (.int .u32 0) := (iH BK105.out 0).trans rfl; have hcz18_1 : w17.cell? ⟨gb105, 1, none⟩ = some (.slice none 0 0) := (iH BK105.out 1).trans rfl; have hfz18_0 := iG BK105.out 0; have hfz18_1 := iG BK105.out 1))
           have n0_ : iC (((w17.setCell ⟨gb105, 0, none⟩ (.int .u32 ((iK l0 x7_1).f0))).setCell ⟨gb105, 1, none⟩ (.slice A104_1 ((iK l0 x7_1).f1).length c104_1)).heap[gb105]? = some (.cells #[.int .u32 ((iK l0 x7_1).f0), .slice A104_1 ((iK l0 x7_1).f1).length c104_1] 114 (0, 0))) := ⟨by (with_reducible repeat (first | refine lT ?_ _ | refine lG ?_ | refine lL ?_ _)); refine lJ (cs := #[.int .u32 ((iK l0 x7_1).f0), .slice none 0 0]) ?_ 1 _ rfl; (with_reducible repeat (first | refine lT ?_ _ | refine lG ?_ | refine lL ?_ _)); refine lJ (cs := #[.int .u32 0, .slice none 0 0]) ?_ 0 _ rfl; (with_reducible repeat (first | refine lT ?_ _ | refine lG ?_ | refine lL ?_ _)); exact BK105.out⟩
           have n1_ : iC (Below w.heap.size w ((w17.setCell ⟨gb105, 0, none⟩ (.int .u32 ((iK l0 x7_1).f0))).setCell ⟨gb105, 1, none⟩ (.slice A104_1 ((iK l0 x7_1).f1).length c104_1))) := ⟨by repeat (first | (with_reducible first | exact HB.out | apply iD | apply iE | apply iT | refine iM ?_ GE105.out) | exact HB.out)⟩
           (try clear BK105)
           (try clear HB)
           generalize ((w17.setCell ⟨gb105, 0, none⟩ (.int .u32 ((iK l0 x7_1).f0))).setCell ⟨gb105, 1, none⟩ (.slice A104_1 ((iK l0 x7_1).f1).length c104_1)) = w19 at n0_ n1_ ⊢
           have BK105 := n0_
           have HB := n1_
           clear n0_ n1_
           have n0_ := iC.mk (lG BK105.out)
           have n1_ := iC.mk (iT HB.out)
           clear BK105
           clear HB
           have BK105 := n0_
           have HB := n1_
           clear n0_ n1_
           have p107 : 0 ≤ ((ji8) : Int) := of_decide_eq_true asm_
           have q107 : (ji8) < (l0.length : Int) := of_decide_eq_true asm_
           obtain ⟨ad107, A107_1, c107_1, e107, hx107_0, hx107_1, hl107_1, hi107_1⟩ := kS HR0.out (ji8) p107 q107
           have hw107_1 := hx107_1
           have hw107_0 := hx107_0
           obtain rfl : ad104 = ad107 := (by injection e107)
           replace hx107_0 := (HB.out.cell (World.block_lt_of_cell? w _ hx107_0)).trans hx107_0
           replace hx107_1 := (HB.out.cell (World.block_lt_of_cell? w _ hx107_1)).trans hx107_1
           have HR107_1 := iC.mk hi107_1
           have HC107_1 := iC.mk hl107_1
           clear hi107_1 hl107_1
           replace p107 := eq_true p107
           replace q107 := eq_true q107
           refine vP (n := 19) (S := fun w' => w'.cell? ⟨gb105, 0, none⟩ = some (.int .u32 ((iK l0 x7_1).f0)) ∧ w'.cell? ⟨gb105, 1, none⟩ = some (.slice A104_1 ((iK l0 x7_1).f1).length c104_1) ∧ w'.cell? (ad104.add (((ji8)).toNat * 2)) = some (.int .u32 ((iK l0 (ji8)).f0)) ∧ w'.cell? ⟨(ad104.add (((ji8)).toNat * 2)).block, (ad104.add (((ji8)).toNat * 2)).off + 1, none⟩ = some (.slice A107_1 ((iK l0 (ji8)).f1).length c107_1)) (ds := []) #[false, false, false, false, false, false, false, false, false, false, false, false, false, false, false, false, false, false, false] (by kernel_rfl) rfl rfl ⟨(iH BK105.out 0).trans rfl, (iH BK105.out 1).trans rfl, ((HB.out.cell (World.block_lt_of_cell? w _ hw107_0)).trans hw107_0), ((HB.out.cell (World.block_lt_of_cell? w _ hw107_1)).trans hw107_1)⟩ (fun hHeld => ?_); refine pG code_history.tab4 code_history.bits4 (fun HT_ HW_ => ?_)
           generalize w19.drew = w20 at BK105 HB HR107_1 hx107_0 hx107_1 hHeld ⊢
           refine jT (i := 0) (N := some 12) (v := ?_) (a' := ?_) #[true, false, false, false, false, false, false, false, false, false, false, false, false, false, false, false, false, false, false] rfl rfl (jI HT_.out (by kernel_rfl)) (fun _ _ _ h => h) (Or.inl ⟨by rfl, ?_⟩) ?_ ?_
           rotate_left
           ·intro w'
            go_simp
            with_reducible rfl
           rotate_left
           ·simp only [Act.put, List.setIfInBounds_toArray, List.set_cons_zero, List.set_cons_succ, iR, jK]
            rfl
           refine JZ (i := 1) (N := some 13) (v := ?_) (a' := ?_) #[true, true, false, false, false, false, false, false, false, false, false, false, false, false, false, false, false, false, false] rfl rfl (oM HT_.out HW_.out (by kernel_rfl)) (fun _ _ _ h => h) (Or.inl ⟨by rfl, ?_⟩) hHeld ?_ ?_
           rotate_left
           ·rintro w' ⟨s0, s1, s2, s3⟩
            go_simp
            with_reducible rfl
           rotate_left
           ·simp only [Act.put, List.setIfInBounds_toArray, List.set_cons_zero, List.set_cons_succ, iR, jK]
            rfl
           refine one_ (i := 2) (N := some 14) #[true, true, true, false, false, false, false, false, false, false, false, false, false, false, false, false, false, false, false] rfl rfl (o5 HT_.out (by kernel_rfl)) (by decide) (fun K hK => ?_)
           refine qL Tryz.func90 (by kernel_rfl) rfl #[.slice A104_1 ((iK l0 x7_1).f1).length c104_1] (by rfl) rfl rfl (by (try simp only [List.map_toArray, List.map_cons, List.map_nil]); first | done | rfl | (simp only [List.length_drop, List.length_take]; rfl)) ?_
           with_reducible refine (code_batch.calls _ _ ((iK l0 x7_1).f1) true _ ?side1 ?side2 A5.out).mono ?_
           (case side1 => repeat (first | exact (Kd.C_below HR104_1.out HB.out) | (with_reducible refine Kd.C_alloc ?_ _) | (with_reducible refine Kd.C_drewN ?_ _) | (with_reducible refine Kd.C_drew ?_)))
           (case side2 => exact HC104_1.out)
           rintro e w21 ⟨rfl, hb⟩
           refine ⟨_, rfl, ?_⟩
           have n0_ := iC.mk (pK (g := gb105) (o := .cells #[.int .u32 ((iK l0 x7_1).f0), .slice A104_1 ((iK l0 x7_1).f1).length c104_1] 114 (0, 0)) (bk_ BK105.out) hb)
           have n1_ := iC.mk (iF (by repeat (first | (with_reducible first | exact HB.out | apply iD | apply iE | apply iT | refine iM ?_ GE105.out) | exact HB.out)) hb)
           clear BK105
           clear HB
           have BK105 := n0_
           have HB := n1_
           clear n0_ n1_
           (try clear hb)
           (try clear hb2)
           (try clear hk)
           (try clear hi)
           refine hK.out _ _ ⟨(iH BK105.out 0).trans rfl, (iH BK105.out 1).trans rfl, ((HB.out.cell (World.block_lt_of_cell? w _ hw107_0)).trans hw107_0), ((HB.out.cell (World.block_lt_of_cell? w _ hw107_1)).trans hw107_1)⟩ (fun hHeld => ?_)
           clear hK K
           refine nG (a' := ?_) ?_ ?_
           rotate_left
           ·show Act.put _ (some 14) _ = _
            simp only [Act.put, List.setIfInBounds_toArray, List.set_cons_zero, List.set_cons_succ, iR, jK]
            rfl
           refine jT (i := 3) (N := some 15) (v := ?_) (a' := ?_) #[true, true, true, true, false, false, false, false, false, false, false, false, false, false, false, false, false, false, false] rfl rfl (jI HT_.out (by kernel_rfl)) (fun _ _ _ h => h) (Or.inl ⟨by rfl, ?_⟩) ?_ ?_
           rotate_left
           ·intro w'
            go_simp
            with_reducible rfl
           rotate_left
           ·simp only [Act.put, List.setIfInBounds_toArray, List.set_cons_zero, List.set_cons_succ, iR, jK]
            rfl
           refine jT (i := 4) (N := some 16) (v := ?_) (a' := ?_) #[true, true, true, true, true, false, false, false, false, false, false, false, false, false, false, false, false, false, false] rfl rfl (jI HT_.out (by kernel_rfl)) (fun _ _ _ h => h) (Or.inl ⟨by rfl, ?_⟩) ?_ ?_
           rotate_left
           ·intro w'
            go_simp
            with_reducible rfl
           rotate_left
           ·simp only [Act.put, List.setIfInBounds_toArray, List.set_cons_zero, List.set_cons_succ, iR, jK]
            rfl
           refine jT (i := 5) (N := some 17) (v := ?_) (a' := ?_) #[true, true, true, true, true, true, false, false, false, false, false, false, false, false, false, false, false, false, false] rfl rfl (jI HT_.out (by kernel_rfl)) (fun _ _ _ h => h) (Or.inl ⟨by rfl, ?_⟩) ?_ ?_
           rotate_left
           ·intro w'
            go_simp
            with_reducible rfl
           rotate_left
           ·simp only [Act.put, List.setIfInBounds_toArray, List.set_cons_zero, List.set_cons_succ, iR, jK]
            rfl
           refine jT (i := 6) (N := some 18) (v := ?_) (a' := ?_) #[true, true, true, true, true, true, true, false, false, false, false, false, false, false, false, false, false, false, false] rfl rfl (jI HT_.out (by kernel_rfl)) (fun _ _ _ h => h) (Or.inl ⟨by rfl, ?_⟩) ?_ ?_
           rotate_left
           ·intro w'
            go_simp
            with_reducible rfl
           rotate_left
           ·simp only [Act.put, List.setIfInBounds_toArray, List.set_cons_zero, List.set_cons_succ, iR, jK]
            rfl
           refine jT (i := 7) (N := some 19) (v := ?_) (a' := ?_) #[true, true, true, true, true, true, true, true, false, false, false, false, false, false, false, false, false, false, false] rfl rfl (jI HT_.out (by kernel_rfl)) (fun _ _ _ h => h) (Or.inl ⟨by rfl, ?_⟩) ?_ ?_
           rotate_left
           ·intro w'
            go_simp
            with_reducible rfl
           rotate_left
           ·simp only [Act.put, List.setIfInBounds_toArray, List.set_cons_zero, List.set_cons_succ, iR, jK]
            rfl
           refine jT (i := 8) (N := some 20) (v := ?_) (a' := ?_) #[true, true, true, true, true, true, true, true, true, false, false, false, false, false, false, false, false, false, false] rfl rfl (jI HT_.out (by kernel_rfl)) (fun _ _ _ h => h) (Or.inl ⟨by rfl, ?_⟩) ?_ ?_
           rotate_left
           ·intro w'
            go_simp
            with_reducible rfl
           rotate_left
           ·simp only [Act.put, List.setIfInBounds_toArray, List.set_cons_zero, List.set_cons_succ, iR, jK]
            rfl
           refine jT (i := 10) (N := some 22) (v := ?_) (a' := ?_) #[true, true, true, true, true, true, true, true, true, false, true, false, false, false, false, false, false, false, false] rfl rfl (jI HT_.out (by kernel_rfl)) (fun _ _ _ h => h) (Or.inl ⟨by rfl, ?_⟩) ?_ ?_
           rotate_left
           ·intro w'
            go_simp
            with_reducible rfl
           rotate_left
           ·simp only [Act.put, List.setIfInBounds_toArray, List.set_cons_zero, List.set_cons_succ, iR, jK]
            rfl
           refine jT (i := 11) (N := some 23) (v := ?_) (a' := ?_) #[true, true, true, true, true, true, true, true, true, false, true, true, false, false, false, false, false, false, false] rfl rfl (jI HT_.out (by kernel_rfl)) (fun _ _ _ h => h) (Or.inl ⟨by rfl, ?_⟩) ?_ ?_
           rotate_left
           ·intro w'
            go_simp
            with_reducible rfl
           rotate_left
           ·simp only [Act.put, List.setIfInBounds_toArray, List.set_cons_zero, List.set_cons_succ, iR, jK]
            rfl
           refine jT (i := 12) (N := some 24) (v := ?_) (a' := ?_) #[true, true, true, true, true, true, true, true, true, false, true, true, true, false, false, false, false, false, false] rfl rfl (jI HT_.out (by kernel_rfl)) (fun _ _ _ h => h) (Or.inl ⟨by rfl, ?_⟩) ?_ ?_
           rotate_left
           ·intro w'
            go_simp
            with_reducible rfl
           rotate_left
           ·simp only [Act.put, List.setIfInBounds_toArray, List.set_cons_zero, List.set_cons_succ, iR, jK]
            rfl
           refine jT (i := 13) (N := some 25) (v := ?_) (a' := ?_) #[true, true, true, true, true, true, true, true, true, false, true, true, true, true, false, false, false, false, false] rfl rfl (jI HT_.out (by kernel_rfl)) (fun _ _ _ h => h) (Or.inl ⟨by rfl, ?_⟩) ?_ ?_
           rotate_left
           ·intro w'
            go_simp
            with_reducible rfl
           rotate_left
           ·simp only [Act.put, List.setIfInBounds_toArray, List.set_cons_zero, List.set_cons_succ, iR, jK]
            rfl
           refine jT (i := 14) (N := some 26) (v := ?_) (a' := ?_) #[true, true, true, true, true, true, true, true, true, false, true, true, true, true, true, false, false, false, false] rfl rfl (jI HT_.out (by kernel_rfl)) (fun _ _ _ h => h) (Or.inl ⟨by rfl, ?_⟩) ?_ ?_
           rotate_left
           ·intro w'
            go_simp
            with_reducible rfl
           rotate_left
           ·simp only [Act.put, List.setIfInBounds_toArray, List.set_cons_zero, List.set_cons_succ, iR, jK]
            rfl
           refine JZ (i := 9) (N := some 21) (v := ?_) (a' := ?_) #[true, true, true, true, true, true, true, true, true, true, true, true, true, true, true, false, false, false, false] rfl rfl (oM HT_.out HW_.out (by kernel_rfl)) (fun _ _ _ h => h) (Or.inl ⟨by rfl, ?_⟩) hHeld ?_ ?_
           rotate_left
           ·rintro w' ⟨s0, s1, s2, s3⟩
            go_simp
            with_reducible rfl
           rotate_left
           ·simp only [Act.put, List.setIfInBounds_toArray, List.set_cons_zero, List.set_cons_succ, iR, jK]
            rfl
           refine JZ (i := 15) (N := some 27) (v := ?_) (a' := ?_) #[true, true, true, true, true, true, true, true, true, true, true, true, true, true, true, true, false, false, false] rfl rfl (oM HT_.out HW_.out (by kernel_rfl)) (fun _ _ _ h => h) (Or.inl ⟨by rfl, ?_⟩) hHeld ?_ ?_
           rotate_left
           ·rintro w' ⟨s0, s1, s2, s3⟩
            go_simp
            with_reducible rfl
           rotate_left
           ·simp only [Act.put, List.setIfInBounds_toArray, List.set_cons_zero, List.set_cons_succ, iR, jK]
            rfl
           refine jT (i := 16) (N := some 28) (v := ?_) (a' := ?_) #[true, true, true, true, true, true, true, true, true, true, true, true, true, true, true, true, true, false, false] rfl rfl (jI HT_.out (by kernel_rfl)) (fun _ _ _ h => h) (Or.inl ⟨by rfl, ?_⟩) ?_ ?_
           rotate_left
           ·intro w'
            go_simp
            with_reducible rfl
           rotate_left
           ·simp only [Act.put, List.setIfInBounds_toArray, List.set_cons_zero, List.set_cons_succ, iR, jK]
            rfl
           refine jT (i := 17) (N := some 29) (v := ?_) (a' := ?_) #[true, true, true, true, true, true, true, true, true, true, true, true, true, true, true, true, true, true, false] rfl rfl (jI HT_.out (by kernel_rfl)) (fun _ _ _ h => h) (Or.inl ⟨by rfl, ?_⟩) ?_ ?_
           rotate_left
           ·intro w'
            go_simp
            with_reducible rfl
           rotate_left
           ·simp only [Act.put, List.setIfInBounds_toArray, List.set_cons_zero, List.set_cons_succ, iR, jK]
            rfl
           refine jT (i := 18) (N := some 30) (v := ?_) (a' := ?_) #[true, true, true, true, true, true, true, true, true, true, true, true, true, true, true, true, true, true, true] rfl rfl (jI HT_.out (by kernel_rfl)) (fun _ _ _ h => h) (Or.inl ⟨by rfl, ?_⟩) ?_ ?_
           rotate_left
           ·intro w'
            go_simp
            with_reducible rfl
           rotate_left
           ·simp only [Act.put, List.setIfInBounds_toArray, List.set_cons_zero, List.set_cons_succ, iR, jK]
            rfl
           refine OJ (uX HT_.out (by kernel_rfl)) ?_
           try go_wp2
           go_roundg k1
           case measure => have := HK1.out; omega
           case rel => exact ⟨(wrap64 (x7_1 + 1)), (by first | rfl | (simp; done) | (simp [*]; done)), H', ⟨by have := HK1.out; omega⟩, ⟨by repeat (first | (with_reducible first | exact HB.out | apply iD | apply iE | apply iT | refine iM ?_ GE105.out) | exact HB.out)⟩⟩
         ·rw [if_neg c10] at H
          exact absurd H (by simp)
        ·rw [if_neg c9] at H
         exact absurd H (by simp)
       ·rw [if_neg c7] at H
        have c7b0 : decide (0 < x7_1) = false := decide_eq_false c7
        clear c7
        have H' := iC.mk H
        clear H
        have p104 : 0 ≤ (x7_1 : Int) := of_decide_eq_true asm_
        have q104 : x7_1 < (l0.length : Int) := of_decide_eq_true asm_
        obtain ⟨ad104, A104_1, c104_1, e104, hx104_0, hx104_1, hl104_1, hi104_1⟩ := kS HR0.out x7_1 p104 q104
        cases e104
        replace hx104_0 := (HB.out.cell (World.block_lt_of_cell? w _ hx104_0)).trans hx104_0
        replace hx104_1 := (HB.out.cell (World.block_lt_of_cell? w _ hx104_1)).trans hx104_1
        have HR104_1 := iC.mk hi104_1
        have HC104_1 := iC.mk hl104_1
        clear hi104_1 hl104_1
        replace p104 := eq_true p104
        replace q104 := eq_true q104
        try go_wp2_with (first | ((with_reducible refine kU (N := 4) rfl ?_); refine kG ?hg (N := 4) ?hd (cs := #[.int .u32 0, .slice none 0 0]) (t := 114) ?hr ?_; (case hd => rfl); (case hg => rfl); (case hr => first | (go_simp; done) | (go_simp; rfl)); intro gb105 hg w22 hbox hb; have n0_ := iC.mk (iF hb_ hb); have n1_ := iC.mk (hbox); have n2_ := iC.mk ((by rw [hg]; exact (iV hb_) : w.heap.size ≤ gb105)); have n3_ := iC.mk ((by rw [hg]; exact (iV hb_) : w.heap.size ≤ gb105)); clear HB; have HB := n0_; have BK105 := n1_; have GW105 := n2_; have GE105 := n3_; clear n0_ n1_ n2_ n3_; clear hb hbox hg; have hcz23_0 : w22.cell? ⟨gb105, 0, none⟩ = some (.int .u32 0) := (iH BK105.out 0).trans rfl; have hcz23_1 : w22.cell? ⟨gb105, 1, none⟩ = some (.slice none 0 0) := (iH BK105.out 1).trans rfl; have hfz23_0 := iG BK105.out 0; have hfz23_1 := iG BK105.out 1))
        have n0_ : iC (((w22.setCell ⟨gb105, 0, none⟩ (.int .u32 ((iK l0 x7_1).f0))).setCell ⟨gb105, 1, none⟩ (.slice A104_1 ((iK l0 x7_1).f1).length c104_1)).heap[gb105]? = some (.cells #[.int .u32 ((iK l0 x7_1).f0), .slice A104_1 ((iK l0 x7_1).f1).length c104_1] 114 (0, 0))) := ⟨by (with_reducible repeat (first | refine lT ?_ _ | refine lG ?_ | refine lL ?_ _)); refine lJ (cs := #[.int .u32 ((iK l0 x7_1).f0), .slice none 0 0]) ?_ 1 _ rfl; (with_reducible repeat (first | refine lT ?_ _ | refine lG ?_ | refine lL ?_ _)); refine lJ (cs := #[.int .u32 0, .slice none 0 0]) ?_ 0 _ rfl; (with_reducible repeat (first | refine lT ?_ _ | refine lG ?_ | refine lL ?_ _)); exact BK105.out⟩
        have n1_ : iC (Below w.heap.size w ((w22.setCell ⟨gb105, 0, none⟩ (.int .u32 ((iK l0 x7_1).f0))).setCell ⟨gb105, 1, none⟩ (.slice A104_1 ((iK l0 x7_1).f1).length c104_1))) := ⟨by repeat (first | (with_reducible first | exact HB.out | apply iD | apply iE | apply iT | refine iM ?_ GE105.out) | exact HB.out)⟩
        (try clear BK105)
        (try clear HB)
        generalize ((w22.setCell ⟨gb105, 0, none⟩ (.int .u32 ((iK l0 x7_1).f0))).setCell ⟨gb105, 1, none⟩ (.slice A104_1 ((iK l0 x7_1).f1).length c104_1)) = w24 at n0_ n1_ ⊢
        have BK105 := n0_
        have HB := n1_
        clear n0_ n1_
        have n0_ := iC.mk (lG BK105.out)
        have n1_ := iC.mk (iT HB.out)
        clear BK105
        clear HB
        have BK105 := n0_
        have HB := n1_
        clear n0_ n1_
        refine vP (n := 19) (S := fun w' => w'.cell? ⟨gb105, 0, none⟩ = some (.int .u32 ((iK l0 x7_1).f0)) ∧ w'.cell? ⟨gb105, 1, none⟩ = some (.slice A104_1 ((iK l0 x7_1).f1).length c104_1)) (ds := []) #[false, false, false, false, false, false, false, false, false, false, false, false, false, false, false, false, false, false, false] (by kernel_rfl) rfl rfl ⟨(iH BK105.out 0).trans rfl, (iH BK105.out 1).trans rfl⟩ (fun hHeld => ?_); refine pG code_history.tab4 code_history.bits4 (fun HT_ HW_ => ?_)
        generalize w24.drew = w25 at BK105 HB hHeld ⊢
        refine jT (i := 0) (N := some 12) (v := ?_) (a' := ?_) #[true, false, false, false, false, false, false, false, false, false, false, false, false, false, false, false, false, false, false] rfl rfl (jI HT_.out (by kernel_rfl)) (fun _ _ _ h => h) (Or.inl ⟨by rfl, ?_⟩) ?_ ?_
        rotate_left
        ·intro w'
         go_simp
         with_reducible rfl
        rotate_left
        ·simp only [Act.put, List.setIfInBounds_toArray, List.set_cons_zero, List.set_cons_succ, iR, jK]
         rfl
        refine JZ (i := 1) (N := some 13) (v := ?_) (a' := ?_) #[true, true, false, false, false, false, false, false, false, false, false, false, false, false, false, false, false, false, false] rfl rfl (oM HT_.out HW_.out (by kernel_rfl)) (fun _ _ _ h => h) (Or.inl ⟨by rfl, ?_⟩) hHeld ?_ ?_
        rotate_left
        ·rintro w' ⟨s0, s1⟩
         go_simp
         with_reducible rfl
        rotate_left
        ·simp only [Act.put, List.setIfInBounds_toArray, List.set_cons_zero, List.set_cons_succ, iR, jK]
         rfl
        refine one_ (i := 2) (N := some 14) #[true, true, true, false, false, false, false, false, false, false, false, false, false, false, false, false, false, false, false] rfl rfl (o5 HT_.out (by kernel_rfl)) (by decide) (fun K hK => ?_)
        refine qL Tryz.func90 (by kernel_rfl) rfl #[.slice A104_1 ((iK l0 x7_1).f1).length c104_1] (by rfl) rfl rfl (by (try simp only [List.map_toArray, List.map_cons, List.map_nil]); first | done | rfl | (simp only [List.length_drop, List.length_take]; rfl)) ?_
        with_reducible refine (code_batch.calls _ _ ((iK l0 x7_1).f1) true _ ?side1 ?side2 A5.out).mono ?_
        (case side1 => repeat (first | exact (Kd.C_below HR104_1.out HB.out) | (with_reducible refine Kd.C_alloc ?_ _) | (with_reducible refine Kd.C_drewN ?_ _) | (with_reducible refine Kd.C_drew ?_)))
        (case side2 => exact HC104_1.out)
        rintro e w26 ⟨rfl, hb⟩
        refine ⟨_, rfl, ?_⟩
        have n0_ := iC.mk (pK (g := gb105) (o := .cells #[.int .u32 ((iK l0 x7_1).f0), .slice A104_1 ((iK l0 x7_1).f1).length c104_1] 114 (0, 0)) (bk_ BK105.out) hb)
        have n1_ := iC.mk (iF (by repeat (first | (with_reducible first | exact HB.out | apply iD | apply iE | apply iT | refine iM ?_ GE105.out) | exact HB.out)) hb)
        clear BK105
        clear HB
        have BK105 := n0_
        have HB := n1_
        clear n0_ n1_
        (try clear hb)
        (try clear hb2)
        (try clear hk)
        (try clear hi)
        refine hK.out _ _ ⟨(iH BK105.out 0).trans rfl, (iH BK105.out 1).trans rfl⟩ (fun hHeld => ?_)
        clear hK K
        refine nG (a' := ?_) ?_ ?_
        rotate_left
        ·show Act.put _ (some 14) _ = _
         simp only [Act.put, List.setIfInBounds_toArray, List.set_cons_zero, List.set_cons_succ, iR, jK]
         rfl
        refine jT (i := 3) (N := some 15) (v := ?_) (a' := ?_) #[true, true, true, true, false, false, false, false, false, false, false, false, false, false, false, false, false, false, false] rfl rfl (jI HT_.out (by kernel_rfl)) (fun _ _ _ h => h) (Or.inl ⟨by rfl, ?_⟩) ?_ ?_
        rotate_left
        ·intro w'
         go_simp
         with_reducible rfl
        rotate_left
        ·simp only [Act.put, List.setIfInBounds_toArray, List.set_cons_zero, List.set_cons_succ, iR, jK]
         rfl
        refine jT (i := 4) (N := some 16) (v := ?_) (a' := ?_) #[true, true, true, true, true, false, false, false, false, false, false, false, false, false, false, false, false, false, false] rfl rfl (jI HT_.out (by kernel_rfl)) (fun _ _ _ h => h) (Or.inl ⟨by rfl, ?_⟩) ?_ ?_
        rotate_left
        ·intro w'
         go_simp
         with_reducible rfl
        rotate_left
        ·simp only [Act.put, List.setIfInBounds_toArray, List.set_cons_zero, List.set_cons_succ, iR, jK]
         rfl
        refine jT (i := 5) (N := some 17) (v := ?_) (a' := ?_) #[true, true, true, true, true, true, false, false, false, false, false, false, false, false, false, false, false, false, false] rfl rfl (jI HT_.out (by kernel_rfl)) (fun _ _ _ h => h) (Or.inl ⟨by rfl, ?_⟩) ?_ ?_
        rotate_left
        ·intro w'
         go_simp
         with_reducible rfl
        rotate_left
        ·simp only [Act.put, List.setIfInBounds_toArray, List.set_cons_zero, List.set_cons_succ, iR, jK]
         rfl
        refine jT (i := 6) (N := some 18) (v := ?_) (a' := ?_) #[true, true, true, true, true, true, true, false, false, false, false, false, false, false, false, false, false, false, false] rfl rfl (jI HT_.out (by kernel_rfl)) (fun _ _ _ h => h) (Or.inl ⟨by rfl, ?_⟩) ?_ ?_
        rotate_left
        ·intro w'
         go_simp
         with_reducible rfl
        rotate_left
        ·simp only [Act.put, List.setIfInBounds_toArray, List.set_cons_zero, List.set_cons_succ, iR, jK]
         rfl
        refine jT (i := 7) (N := some 19) (v := ?_) (a' := ?_) #[true, true, true, true, true, true, true, true, false, false, false, false, false, false, false, false, false, false, false] rfl rfl (jI HT_.out (by kernel_rfl)) (fun _ _ _ h => h) (Or.inl ⟨by rfl, ?_⟩) ?_ ?_
        rotate_left
        ·intro w'
         go_simp
         with_reducible rfl
        rotate_left
        ·simp only [Act.put, List.setIfInBounds_toArray, List.set_cons_zero, List.set_cons_succ, iR, jK]
         rfl
        refine jT (i := 8) (N := some 20) (v := undef) (a' := ?_) #[true, true, true, true, true, true, true, true, true, false, false, false, false, false, false, false, false, false, false] rfl rfl (jI HT_.out (by kernel_rfl)) (fun _ _ _ h => h) (Or.inr ⟨by rfl, rfl⟩) ?_ ?_
        rotate_left
        ·simp only [Act.put, List.setIfInBounds_toArray, List.set_cons_zero, List.set_cons_succ, iR, jK]
         rfl
        refine jT (i := 9) (N := some 21) (v := undef) (a' := ?_) #[true, true, true, true, true, true, true, true, true, true, false, false, false, false, false, false, false, false, false] rfl rfl (jI HT_.out (by kernel_rfl)) (fun _ _ _ h => h) (Or.inr ⟨by rfl, rfl⟩) ?_ ?_
        rotate_left
        ·simp only [Act.put, List.setIfInBounds_toArray, List.set_cons_zero, List.set_cons_succ, iR, jK]
         rfl
        refine jT (i := 10) (N := some 22) (v := undef) (a' := ?_) #[true, true, true, true, true, true, true, true, true, true, true, false, false, false, false, false, false, false, false] rfl rfl (jI HT_.out (by kernel_rfl)) (fun _ _ _ h => h) (Or.inr ⟨by rfl, rfl⟩) ?_ ?_
        rotate_left
        ·simp only [Act.put, List.setIfInBounds_toArray, List.set_cons_zero, List.set_cons_succ, iR, jK]
         rfl
        refine jT (i := 11) (N := some 23) (v := undef) (a' := ?_) #[true, true, true, true, true, true, true, true, true, true, true, true, false, false, false, false, false, false, false] rfl rfl (jI HT_.out (by kernel_rfl)) (fun _ _ _ h => h) (Or.inr ⟨by rfl, rfl⟩) ?_ ?_
        rotate_left
        ·simp only [Act.put, List.setIfInBounds_toArray, List.set_cons_zero, List.set_cons_succ, iR, jK]
         rfl
        refine jT (i := 12) (N := some 24) (v := undef) (a' := ?_) #[true, true, true, true, true, true, true, true, true, true, true, true, true, false, false, false, false, false, false] rfl rfl (jI HT_.out (by kernel_rfl)) (fun _ _ _ h => h) (Or.inr ⟨by rfl, rfl⟩) ?_ ?_
        rotate_left
        ·simp only [Act.put, List.setIfInBounds_toArray, List.set_cons_zero, List.set_cons_succ, iR, jK]
         rfl
        refine jT (i := 13) (N := some 25) (v := undef) (a' := ?_) #[true, true, true, true, true, true, true, true, true, true, true, true, true, true, false, false, false, false, false] rfl rfl (jI HT_.out (by kernel_rfl)) (fun _ _ _ h => h) (Or.inr ⟨by rfl, rfl⟩) ?_ ?_
        rotate_left
        ·simp only [Act.put, List.setIfInBounds_toArray, List.set_cons_zero, List.set_cons_succ, iR, jK]
         rfl
        refine jT (i := 14) (N := some 26) (v := undef) (a' := ?_) #[true, true, true, true, true, true, true, true, true, true, true, true, true, true, true, false, false, false, false] rfl rfl (jI HT_.out (by kernel_rfl)) (fun _ _ _ h => h) (Or.inr ⟨by rfl, rfl⟩) ?_ ?_
        rotate_left
        ·simp only [Act.put, List.setIfInBounds_toArray, List.set_cons_zero, List.set_cons_succ, iR, jK]
         rfl
        refine jT (i := 15) (N := some 27) (v := undef) (a' := ?_) #[true, true, true, true, true, true, true, true, true, true, true, true, true, true, true, true, false, false, false] rfl rfl (jI HT_.out (by kernel_rfl)) (fun _ _ _ h => h) (Or.inr ⟨by rfl, rfl⟩) ?_ ?_
        rotate_left
        ·simp only [Act.put, List.setIfInBounds_toArray, List.set_cons_zero, List.set_cons_succ, iR, jK]
         rfl
        refine jT (i := 16) (N := some 28) (v := undef) (a' := ?_) #[true, true, true, true, true, true, true, true, true, true, true, true, true, true, true, true, true, false, false] rfl rfl (jI HT_.out (by kernel_rfl)) (fun _ _ _ h => h) (Or.inr ⟨by rfl, rfl⟩) ?_ ?_
        rotate_left
        ·simp only [Act.put, List.setIfInBounds_toArray, List.set_cons_zero, List.set_cons_succ, iR, jK]
         rfl
        refine jT (i := 17) (N := some 29) (v := ?_) (a' := ?_) #[true, true, true, true, true, true, true, true, true, true, true, true, true, true, true, true, true, true, false] rfl rfl (jI HT_.out (by kernel_rfl)) (fun _ _ _ h => h) (Or.inl ⟨by rfl, ?_⟩) ?_ ?_
        rotate_left
        ·intro w'
         go_simp
         with_reducible rfl
        rotate_left
        ·simp only [Act.put, List.setIfInBounds_toArray, List.set_cons_zero, List.set_cons_succ, iR, jK]
         rfl
        refine jT (i := 18) (N := some 30) (v := ?_) (a' := ?_) #[true, true, true, true, true, true, true, true, true, true, true, true, true, true, true, true, true, true, true] rfl rfl (jI HT_.out (by kernel_rfl)) (fun _ _ _ h => h) (Or.inl ⟨by rfl, ?_⟩) ?_ ?_
        rotate_left
        ·intro w'
         go_simp
         with_reducible rfl
        rotate_left
        ·simp only [Act.put, List.setIfInBounds_toArray, List.set_cons_zero, List.set_cons_succ, iR, jK]
         rfl
        refine OJ (uX HT_.out (by kernel_rfl)) ?_
        try go_wp2
        go_roundg k1
        case measure => have := HK1.out; omega
        case rel => exact ⟨(wrap64 (x7_1 + 1)), (by first | rfl | (simp; done) | (simp [*]; done)), H', ⟨by have := HK1.out; omega⟩, ⟨by repeat (first | (with_reducible first | exact HB.out | apply iD | apply iE | apply iT | refine iM ?_ GE105.out) | exact HB.out)⟩⟩
      ·replace c6 := Bool.eq_false_iff.mpr c6
       subst c6
       have H1 : (some false) = some r := by rw [if_neg (show ¬ (false = true) by decide)] at H; exact H
       clear H
       have H := H1
       clear H1
       obtain rfl := Option.some.inj H
       have p104 : 0 ≤ (x7_1 : Int) := of_decide_eq_true asm_
       have q104 : x7_1 < (l0.length : Int) := of_decide_eq_true asm_
       obtain ⟨ad104, A104_1, c104_1, e104, hx104_0, hx104_1, hl104_1, hi104_1⟩ := kS HR0.out x7_1 p104 q104
       cases e104
       replace hx104_0 := (HB.out.cell (World.block_lt_of_cell? w _ hx104_0)).trans hx104_0
       replace hx104_1 := (HB.out.cell (World.block_lt_of_cell? w _ hx104_1)).trans hx104_1
       have HR104_1 := iC.mk hi104_1
       have HC104_1 := iC.mk hl104_1
       clear hi104_1 hl104_1
       replace p104 := eq_true p104
       replace q104 := eq_true q104
       try go_wp2_with (first | ((with_reducible refine kU (N := 4) rfl ?_); refine kG ?hg (N := 4) ?hd (cs := #[.int .u32 0, .slice none 0 0]) (t := 114) ?hr ?_; (case hd => rfl); (case hg => rfl); (case hr => first | (go_simp; done) | (go_simp; rfl)); intro gb105 hg w27 hbox hb; have n0_ := iC.mk (iF hb_ hb); have n1_ := iC.mk (hbox); have n2_ := iC.mk ((by rw [hg]; exact (iV hb_) : w.heap.size ≤ gb105)); have n3_ := iC.mk ((by rw [hg]; exact (iV hb_) : w.heap.size ≤ gb105)); clear HB; have HB := n0_; have BK105 := n1_; have GW105 := n2_; have GE105 := n3_; clear n0_ n1_ n2_ n3_; clear hb hbox hg; have hcz28_0 : w27.cell? ⟨gb105, 0, none⟩ = some (.int .u32 0) := (iH BK105.out 0).trans rfl; have hcz28_1 : w27.cell? ⟨gb105, 1, none⟩ = some (.slice none 0 0) := (iH BK105.out 1).trans rfl; have hfz28_0 := iG BK105.out 0; have hfz28_1 := iG BK105.out 1))
       have n0_ : iC (((w27.setCell ⟨gb105, 0, none⟩ (.int .u32 ((iK l0 x7_1).f0))).setCell ⟨gb105, 1, none⟩ (.slice A104_1 ((iK l0 x7_1).f1).length c104_1)).heap[gb105]? = some (.cells #[.int .u32 ((iK l0 x7_1).f0), .slice A104_1 ((iK l0 x7_1).f1).length c104_1] 114 (0, 0))) := ⟨by (with_reducible repeat (first | refine lT ?_ _ | refine lG ?_ | refine lL ?_ _)); refine lJ (cs := #[.int .u32 ((iK l0 x7_1).f0), .slice none 0 0]) ?_ 1 _ rfl; (with_reducible repeat (first | refine lT ?_ _ | refine lG ?_ | refine lL ?_ _)); refine lJ (cs := #[.int .u32 0, .slice none 0 0]) ?_ 0 _ rfl; (with_reducible repeat (first | refine lT ?_ _ | refine lG ?_ | refine lL ?_ _)); exact BK105.out⟩
       have n1_ : iC (Below w.heap.size w ((w27.setCell ⟨gb105, 0, none⟩ (.int .u32 ((iK l0 x7_1).f0))).setCell ⟨gb105, 1, none⟩ (.slice A104_1 ((iK l0 x7_1).f1).length c104_1))) := ⟨by repeat (first | (with_reducible first | exact HB.out | apply iD | apply iE | apply iT | refine iM ?_ GE105.out) | exact HB.out)⟩
       (try clear BK105)
       (try clear HB)
       generalize ((w27.setCell ⟨gb105, 0, none⟩ (.int .u32 ((iK l0 x7_1).f0))).setCell ⟨gb105, 1, none⟩ (.slice A104_1 ((iK l0 x7_1).f1).length c104_1)) = w29 at n0_ n1_ ⊢
       have BK105 := n0_
       have HB := n1_
       clear n0_ n1_
       have n0_ := iC.mk (lG BK105.out)
       have n1_ := iC.mk (iT HB.out)
       clear BK105
       clear HB
       have BK105 := n0_
       have HB := n1_
       clear n0_ n1_
       refine vP (n := 19) (S := fun w' => w'.cell? ⟨gb105, 0, none⟩ = some (.int .u32 ((iK l0 x7_1).f0)) ∧ w'.cell? ⟨gb105, 1, none⟩ = some (.slice A104_1 ((iK l0 x7_1).f1).length c104_1)) (ds := []) #[false, false, false, false, false, false, false, false, false, false, false, false, false, false, false, false, false, false, false] (by kernel_rfl) rfl rfl ⟨(iH BK105.out 0).trans rfl, (iH BK105.out 1).trans rfl⟩ (fun hHeld => ?_); refine pG code_history.tab4 code_history.bits4 (fun HT_ HW_ => ?_)
       generalize w29.drew = w30 at BK105 HB hHeld ⊢
       refine jT (i := 0) (N := some 12) (v := ?_) (a' := ?_) #[true, false, false, false, false, false, false, false, false, false, false, false, false, false, false, false, false, false, false] rfl rfl (jI HT_.out (by kernel_rfl)) (fun _ _ _ h => h) (Or.inl ⟨by rfl, ?_⟩) ?_ ?_
       rotate_left
       ·intro w'
        go_simp
        with_reducible rfl
       rotate_left
       ·simp only [Act.put, List.setIfInBounds_toArray, List.set_cons_zero, List.set_cons_succ, iR, jK]
        rfl
       refine JZ (i := 1) (N := some 13) (v := ?_) (a' := ?_) #[true, true, false, false, false, false, false, false, false, false, false, false, false, false, false, false, false, false, false] rfl rfl (oM HT_.out HW_.out (by kernel_rfl)) (fun _ _ _ h => h) (Or.inl ⟨by rfl, ?_⟩) hHeld ?_ ?_
       rotate_left
       ·rintro w' ⟨s0, s1⟩
        go_simp
        with_reducible rfl
       rotate_left
       ·simp only [Act.put, List.setIfInBounds_toArray, List.set_cons_zero, List.set_cons_succ, iR, jK]
        rfl
       refine one_ (i := 2) (N := some 14) #[true, true, true, false, false, false, false, false, false, false, false, false, false, false, false, false, false, false, false] rfl rfl (o5 HT_.out (by kernel_rfl)) (by decide) (fun K hK => ?_)
       refine qL Tryz.func90 (by kernel_rfl) rfl #[.slice A104_1 ((iK l0 x7_1).f1).length c104_1] (by rfl) rfl rfl (by (try simp only [List.map_toArray, List.map_cons, List.map_nil]); first | done | rfl | (simp only [List.length_drop, List.length_take]; rfl)) ?_
       with_reducible refine (code_batch.calls _ _ ((iK l0 x7_1).f1) false _ ?side1 ?side2 A5.out).mono ?_
       (case side1 => repeat (first | exact (Kd.C_below HR104_1.out HB.out) | (with_reducible refine Kd.C_alloc ?_ _) | (with_reducible refine Kd.C_drewN ?_ _) | (with_reducible refine Kd.C_drew ?_)))
       (case side2 => exact HC104_1.out)
       rintro e w31 ⟨rfl, hb⟩
       refine ⟨_, rfl, ?_⟩
       have n0_ := iC.mk (pK (g := gb105) (o := .cells #[.int .u32 ((iK l0 x7_1).f0), .slice A104_1 ((iK l0 x7_1).f1).length c104_1] 114 (0, 0)) (bk_ BK105.out) hb)
       have n1_ := iC.mk (iF (by repeat (first | (with_reducible first | exact HB.out | apply iD | apply iE | apply iT | refine iM ?_ GE105.out) | exact HB.out)) hb)
       clear BK105
       clear HB
       have BK105 := n0_
       have HB := n1_
       clear n0_ n1_
       (try clear hb)
       (try clear hb2)
       (try clear hk)
       (try clear hi)
       refine hK.out _ _ ⟨(iH BK105.out 0).trans rfl, (iH BK105.out 1).trans rfl⟩ (fun hHeld => ?_)
       clear hK K
       refine nG (a' := ?_) ?_ ?_
       rotate_left
       ·show Act.put _ (some 14) _ = _
        simp only [Act.put, List.setIfInBounds_toArray, List.set_cons_zero, List.set_cons_succ, iR, jK]
        rfl
       refine jT (i := 3) (N := some 15) (v := ?_) (a' := ?_) #[true, true, true, true, false, false, false, false, false, false, false, false, false, false, false, false, false, false, false] rfl rfl (jI HT_.out (by kernel_rfl)) (fun _ _ _ h => h) (Or.inl ⟨by rfl, ?_⟩) ?_ ?_
       rotate_left
       ·intro w'
        go_simp
        with_reducible rfl
       rotate_left
       ·simp only [Act.put, List.setIfInBounds_toArray, List.set_cons_zero, List.set_cons_succ, iR, jK]
        rfl
       refine jT (i := 4) (N := some 16) (v := ?_) (a' := ?_) #[true, true, true, true, true, false, false, false, false, false, false, false, false, false, false, false, false, false, false] rfl rfl (jI HT_.out (by kernel_rfl)) (fun _ _ _ h => h) (Or.inl ⟨by rfl, ?_⟩) ?_ ?_
       rotate_left
       ·intro w'
        go_simp
        with_reducible rfl
       rotate_left
       ·simp only [Act.put, List.setIfInBounds_toArray, List.set_cons_zero, List.set_cons_succ, iR, jK]
        rfl
       refine jT (i := 5) (N := some 17) (v := undef) (a' := ?_) #[true, true, true, true, true, true, false, false, false, false, false, false, false, false, false, false, false, false, false] rfl rfl (jI HT_.out (by kernel_rfl)) (fun _ _ _ h => h) (Or.inr ⟨by rfl, rfl⟩) ?_ ?_
       rotate_left
       ·simp only [Act.put, List.setIfInBounds_toArray, List.set_cons_zero, List.set_cons_succ, iR, jK]
        rfl
       refine jT (i := 6) (N := some 18) (v := undef) (a' := ?_) #[true, true, true, true, true, true, true, false, false, false, false, false, false, false, false, false, false, false, false] rfl rfl (jI HT_.out (by kernel_rfl)) (fun _ _ _ h => h) (Or.inr ⟨by rfl, rfl⟩) ?_ ?_
       rotate_left
       ·simp only [Act.put, List.setIfInBounds_toArray, List.set_cons_zero, List.set_cons_succ, iR, jK]
        rfl
       refine jT (i := 7) (N := some 19) (v := undef) (a' := ?_) #[true, true, true, true, true, true, true, true, false, false, false, false, false, false, false, false, false, false, false] rfl rfl (jI HT_.out (by kernel_rfl)) (fun _ _ _ h => h) (Or.inr ⟨by rfl, rfl⟩) ?_ ?_
       rotate_left
       ·simp only [Act.put, List.setIfInBounds_toArray, List.set_cons_zero, List.set_cons_succ, iR, jK]
        rfl
       refine jT (i := 8) (N := some 20) (v := undef) (a' := ?_) #[true, true, true, true, true, true, true, true, true, false, false, false, false, false, false, false, false, false, false] rfl rfl (jI HT_.out (by kernel_rfl)) (fun _ _ _ h => h) (Or.inr ⟨by rfl, rfl⟩) ?_ ?_
       rotate_left
       ·simp only [Act.put, List.setIfInBounds_toArray, List.set_cons_zero, List.set_cons_succ, iR, jK]
        rfl
       refine jT (i := 9) (N := some 21) (v := undef) (a' := ?_) #[true, true, true, true, true, true, true, true, true, true, false, false, false, false, false, false, false, false, false] rfl rfl (jI HT_.out (by kernel_rfl)) (fun _ _ _ h => h) (Or.inr ⟨by rfl, rfl⟩) ?_ ?_
       rotate_left
       ·simp only [Act.put, List.setIfInBounds_toArray, List.set_cons_zero, List.set_cons_succ, iR, jK]
        rfl
       refine jT (i := 10) (N := some 22) (v := undef) (a' := ?_) #[true, true, true, true, true, true, true, true, true, true, true, false, false, false, false, false, false, false, false] rfl rfl (jI HT_.out (by kernel_rfl)) (fun _ _ _ h => h) (Or.inr ⟨by rfl, rfl⟩) ?_ ?_
       rotate_left
       ·simp only [Act.put, List.setIfInBounds_toArray, List.set_cons_zero, List.set_cons_succ, iR, jK]
        rfl
       refine jT (i := 11) (N := some 23) (v := undef) (a' := ?_) #[true, true, true, true, true, true, true, true, true, true, true, true, false, false, false, false, false, false, false] rfl rfl (jI HT_.out (by kernel_rfl)) (fun _ _ _ h => h) (Or.inr ⟨by rfl, rfl⟩) ?_ ?_
       rotate_left
       ·simp only [Act.put, List.setIfInBounds_toArray, List.set_cons_zero, List.set_cons_succ, iR, jK]
        rfl
       refine jT (i := 12) (N := some 24) (v := undef) (a' := ?_) #[true, true, true, true, true, true, true, true, true, true, true, true, true, false, false, false, false, false, false] rfl rfl (jI HT_.out (by kernel_rfl)) (fun _ _ _ h => h) (Or.inr ⟨by rfl, rfl⟩) ?_ ?_
       rotate_left
       ·simp only [Act.put, List.setIfInBounds_toArray, List.set_cons_zero, List.set_cons_succ, iR, jK]
        rfl
       refine jT (i := 13) (N := some 25) (v := undef) (a' := ?_) #[true, true, true, true, true, true, true, true, true, true, true, true, true, true, false, false, false, false, false] rfl rfl (jI HT_.out (by kernel_rfl)) (fun _ _ _ h => h) (Or.inr ⟨by rfl, rfl⟩) ?_ ?_
       rotate_left
       ·simp only [Act.put, List.setIfInBounds_toArray, List.set_cons_zero, List.set_cons_succ, iR, jK]
        rfl
       refine jT (i := 14) (N := some 26) (v := undef) (a' := ?_) #[true, true, true, true, true, true, true, true, true, true, true, true, true, true, true, false, false, false, false] rfl rfl (jI HT_.out (by kernel_rfl)) (fun _ _ _ h => h) (Or.inr ⟨by rfl, rfl⟩) ?_ ?_
       rotate_left
       ·simp only [Act.put, List.setIfInBounds_toArray, List.set_cons_zero, List.set_cons_succ, iR, jK]
        rfl
       refine jT (i := 15) (N := some 27) (v := undef) (a' := ?_) #[true, true, true, true, true, true, true, true, true, true, true, true, true, true, true, true, false, false, false] rfl rfl (jI HT_.out (by kernel_rfl)) (fun _ _ _ h => h) (Or.inr ⟨by rfl, rfl⟩) ?_ ?_
       rotate_left
       ·simp only [Act.put, List.setIfInBounds_toArray, List.set_cons_zero, List.set_cons_succ, iR, jK]
        rfl
       refine jT (i := 16) (N := some 28) (v := undef) (a' := ?_) #[true, true, true, true, true, true, true, true, true, true, true, true, true, true, true, true, true, false, false] rfl rfl (jI HT_.out (by kernel_rfl)) (fun _ _ _ h => h) (Or.inr ⟨by rfl, rfl⟩) ?_ ?_
       rotate_left
       ·simp only [Act.put, List.setIfInBounds_toArray, List.set_cons_zero, List.set_cons_succ, iR, jK]
        rfl
       refine jT (i := 17) (N := some 29) (v := undef) (a' := ?_) #[true, true, true, true, true, true, true, true, true, true, true, true, true, true, true, true, true, true, false] rfl rfl (jI HT_.out (by kernel_rfl)) (fun _ _ _ h => h) (Or.inr ⟨by rfl, rfl⟩) ?_ ?_
       rotate_left
       ·simp only [Act.put, List.setIfInBounds_toArray, List.set_cons_zero, List.set_cons_succ, iR, jK]
        rfl
       refine jT (i := 18) (N := some 30) (v := ?_) (a' := ?_) #[true, true, true, true, true, true, true, true, true, true, true, true, true, true, true, true, true, true, true] rfl rfl (jI HT_.out (by kernel_rfl)) (fun _ _ _ h => h) (Or.inl ⟨by rfl, ?_⟩) ?_ ?_
       rotate_left
       ·intro w'
        go_simp
        with_reducible rfl
       rotate_left
       ·simp only [Act.put, List.setIfInBounds_toArray, List.set_cons_zero, List.set_cons_succ, iR, jK]
        rfl
       refine OJ (uX HT_.out (by kernel_rfl)) ?_
       try go_wp2
       go_ret
       exact ⟨by first | rfl | (simp [jF, jE] <;> rfl) | (simp [*, jF, jE] <;> rfl), by repeat (first | (with_reducible first | exact HB.out | apply iD | apply iE | apply iT | refine iM ?_ GE105.out) | exact HB.out)⟩
     ·rw [if_neg c4] at H
      exact absurd H (by simp)
    ·rw [if_neg c3] at H
     exact absurd H (by simp)
   ·rw [if_neg c2] at H
    have c2b0 : decide (x7_1 < (l0.length : Int)) = false := decide_eq_false c2
    clear c2
    obtain rfl := Option.some.inj H
    go_wp2
    go_ret
    exact ⟨by first | rfl | (simp [jF, jE] <;> rfl) | (simp [*, jF, jE] <;> rfl), hb_⟩
end Go.Proofs.YtgfkgppomaapiaaGreatDoor.K
end

section
namespace Go.Proofs.YtgfkgppomaapiaaGreatDoor.K
open Go.RowKit Go.Proofs.YtgfkgppomaapiaaGreatDoorW.PrintWords Go.Proofs.YtgfkgppomaapiaaGreatDoorW.PrintLast Go.Proofs.YtgfkgppomaapiaaGreatDoorW.PrintMore
attribute [local go_sem] jZ jW kK kH
def code_plain.f (a0_0 : Int) (a0_1 : Int) (a0_2 : Int) (l0_3 : List Int) (l0_4 : List (S149)) (a0_5 : Int) (l0_6 : List (S122)) (a0_7 : Int) (a0_8 : Int) (l0_9 : List (S114)) : Option (Bool) := if a0_0 = 0 then (if a0_1 = 0 then (if a0_2 = 0 then (if (l0_3.length : Int) = 0 then (if (l0_4.length : Int) = 0 then (if a0_5 = 0 then (if (l0_6.length : Int) = 0 then (if a0_7 = 0 then (if a0_8 = 0 then (some ((l0_9.length : Int) == 0)) else (some false)) else (some false)) else (some false)) else (some false)) else (some false)) else (some false)) else (some false)) else (some false)) else (some false)
set_option maxHeartbeats 8000000 in
set_option maxRecDepth 100000 in
theorem code_plain.calls (a0_0 : Int) (a0_1 : Int) (a0_2 : Int) (A0_3 : Option Addr) (c0_3 : Nat) (l0_3 : List Int) (A0_4 : Option Addr) (c0_4 : Nat) (l0_4 : List (S149)) (a0_5 : Int) (A0_6 : Option Addr) (c0_6 : Nat) (l0_6 : List (S122)) (a0_7 : Int) (a0_8 : Int) (A0_9 : Option Addr) (c0_9 : Nat) (l0_9 : List (S114)) (r : Bool) (w : World) (hr0_3 : Kd.C (Kd.int .i64) w A0_3 l0_3.length l0_3) (hc0_3 : l0_3.length ≤ c0_3) (hr0_4 : Kd.C k149 w A0_4 l0_4.length l0_4) (hc0_4 : l0_4.length ≤ c0_4) (hr0_6 : Kd.C k122 w A0_6 l0_6.length l0_6) (hc0_6 : l0_6.length ≤ c0_6) (hr0_9 : Kd.C k114 w A0_9 l0_9.length l0_9) (hc0_9 : l0_9.length ≤ c0_9) (h : code_plain.f a0_0 a0_1 a0_2 l0_3 l0_4 a0_5 l0_6 a0_7 a0_8 l0_9 = some r) :
  Calls Tryz.prog 95 #[.agg #[.int .u8 a0_0, .int .u32 a0_1, .int .u32 a0_2, .slice A0_3 l0_3.length c0_3, .slice A0_4 l0_4.length c0_4, .int .u32 a0_5, .slice A0_6 l0_6.length c0_6, .int .i64 a0_7, .int .i64 a0_8, .slice A0_9 l0_9.length c0_9]] w fun e w' => e = .returned (.bool r) ∧ Below w.heap.size w w' := by
 have hu54 := Tryz.underlying54
 have HR0_3 := iC.mk hr0_3
 have HC0_3 := iC.mk hc0_3
 clear hr0_3 hc0_3
 have HR0_4 := iC.mk hr0_4
 have HC0_4 := iC.mk hc0_4
 clear hr0_4 hc0_4
 have HR0_6 := iC.mk hr0_6
 have HC0_6 := iC.mk hc0_6
 clear hr0_6 hc0_6
 have HR0_9 := iC.mk hr0_9
 have HC0_9 := iC.mk hc0_9
 clear hr0_9 hc0_9
 have HB := iC.mk (Below.refl w.heap.size w)
 have H : (if a0_0 = 0 then (if a0_1 = 0 then (if a0_2 = 0 then (if (l0_3.length : Int) = 0 then (if (l0_4.length : Int) = 0 then (if a0_5 = 0 then (if (l0_6.length : Int) = 0 then (if a0_7 = 0 then (if a0_8 = 0 then (some ((l0_9.length : Int) == 0)) else (some false)) else (some false)) else (some false)) else (some false)) else (some false)) else (some false)) else (some false)) else (some false)) else (some false)) = some r := h
 clear h
 by_cases c2 : a0_0 = 0
 ·rw [if_pos c2] at H
  have c2b0 : (a0_0 == 0) = true := beq_iff_eq.mpr c2
  have c2b1 : (a0_0 != 0) = false := bne_eq_false_iff_eq.mpr c2
  clear c2
  by_cases c3 : a0_1 = 0
  ·rw [if_pos c3] at H
   have c3b0 : (a0_1 == 0) = true := beq_iff_eq.mpr c3
   have c3b1 : (a0_1 != 0) = false := bne_eq_false_iff_eq.mpr c3
   clear c3
   by_cases c4 : a0_2 = 0
   ·rw [if_pos c4] at H
    have c4b0 : (a0_2 == 0) = true := beq_iff_eq.mpr c4
    have c4b1 : (a0_2 != 0) = false := bne_eq_false_iff_eq.mpr c4
    clear c4
    by_cases c5 : (l0_3.length : Int) = 0
    ·rw [if_pos c5] at H
     have c5b0 : ((l0_3.length : Int) == 0) = true := beq_iff_eq.mpr c5
     have c5b1 : ((l0_3.length : Int) != 0) = false := bne_eq_false_iff_eq.mpr c5
     clear c5
     by_cases c6 : (l0_4.length : Int) = 0
     ·rw [if_pos c6] at H
      have c6b0 : ((l0_4.length : Int) == 0) = true := beq_iff_eq.mpr c6
      have c6b1 : ((l0_4.length : Int) != 0) = false := bne_eq_false_iff_eq.mpr c6
      clear c6
      by_cases c7 : a0_5 = 0
      ·rw [if_pos c7] at H
       have c7b0 : (a0_5 == 0) = true := beq_iff_eq.mpr c7
       have c7b1 : (a0_5 != 0) = false := bne_eq_false_iff_eq.mpr c7
       clear c7
       by_cases c8 : (l0_6.length : Int) = 0
       ·rw [if_pos c8] at H
        have c8b0 : ((l0_6.length : Int) == 0) = true := beq_iff_eq.mpr c8
        have c8b1 : ((l0_6.length : Int) != 0) = false := bne_eq_false_iff_eq.mpr c8
        clear c8
        by_cases c9 : a0_7 = 0
        ·rw [if_pos c9] at H
         have c9b0 : (a0_7 == 0) = true := beq_iff_eq.mpr c9
         have c9b1 : (a0_7 != 0) = false := bne_eq_false_iff_eq.mpr c9
         clear c9
         by_cases c10 : a0_8 = 0
         ·rw [if_pos c10] at H
          have c10b0 : (a0_8 == 0) = true := beq_iff_eq.mpr c10
          have c10b1 : (a0_8 != 0) = false := bne_eq_false_iff_eq.mpr c10
          clear c10
          obtain rfl := Option.some.inj H
          go_enter Tryz.func95, Tryz.ntmps95
          go_wp2_with (first | ((with_reducible refine kU (N := 1) rfl ?_); (try (refine kJ (by rfl) ?_; dsimp only)); refine kG ?hg (N := 1) ?hd (cs := #[.int .u8 a0_0, .int .u32 a0_1, .int .u32 a0_2, .slice A0_3 l0_3.length c0_3, .slice A0_4 l0_4.length c0_4, .int .u32 a0_5, .slice A0_6 l0_6.length c0_6, .int .i64 a0_7, .int .i64 a0_8, .slice A0_9 l0_9.length c0_9]) (t := 54) ?hr ?_; (case hd => rfl); (case hg => rfl); (case hr => first | (go_simp; done) | (go_simp; rfl)); intro gb108 hg w11 hbox hb; have n0_ := iC.mk (iF hb_ hb); have n1_ := iC.mk (hbox); have n2_ := iC.mk ((by rw [hg]; exact (iV hb_) : w.heap.size ≤ gb108)); have n3_ := iC.mk ((by rw [hg]; exact (iV hb_) : w.heap.size ≤ gb108)); clear HB; have HB := n0_; have BK108 := n1_; have GW108 := n2_; have GE108 := n3_; clear n0_ n1_ n2_ n3_; clear hb hbox hg; have hcz12_0 : w11.cell? ⟨gb108, 0, none⟩ = some (.int .u8 a0_0) := (iH BK108.out 0).trans rfl; have hcz12_1 : w11.cell? ⟨gb108, 1, none⟩ = some (.int .u32 a0_1) := (iH BK108.out 1).trans rfl; have hcz12_2 : w11.cell? ⟨gb108, 2, none⟩ = some (.int .u32 a0_2) := (iH BK108.out 2).trans rfl; have hcz12_3 : w11.cell? ⟨gb108, 3, none⟩ = some (.slice A0_3 l0_3.length c0_3) := (iH BK108.out 3).trans rfl; have hcz12_4 : w11.cell? ⟨gb108, 4, none⟩ = some (.slice A0_4 l0_4.length c0_4) := (iH BK108.out 4).trans rfl; have hcz12_5 : w11.cell? ⟨gb108, 5, none⟩ = some (.int .u32 a0_5) := (iH BK108.out 5).trans rfl; have hcz12_6 : w11.cell? ⟨gb108, 6, none⟩ = some (.slice A0_6 l0_6.length c0_6) := (iH BK108.out 6).trans rfl; have hcz12_7 : w11.cell? ⟨gb108, 7, none⟩ = some (.int .i64 a0_7) := (iH BK108.out 7).trans rfl; have hcz12_8 : w11.cell? ⟨gb108, 8, none⟩ = some (.int .i64 a0_8) := (iH BK108.out 8).trans rfl; have hcz12_9 : w11.cell? ⟨gb108, 9, none⟩ = some (.slice A0_9 l0_9.length c0_9) := (iH BK108.out 9).trans rfl; have hfz12_0 := iG BK108.out 0; have hfz12_1 := iG BK108.out 1; have hfz12_2 := iG BK108.out 2; have hfz12_3 := iG BK108.out 3; have hfz12_4 := iG BK108.out 4; have hfz12_5 := iG BK108.out 5; have hfz12_6 := iG BK108.out 6; have hfz12_7 := iG BK108.out 7; have hfz12_8 := iG BK108.out 8; have hfz12_9 := iG BK108.out 9))
          go_ret
          exact ⟨by first | rfl | (simp [jF, jE] <;> rfl) | (simp [*, jF, jE] <;> rfl), by repeat (first | (with_reducible first | exact HB.out | apply iD | apply iE | apply iT | refine iM ?_ GE108.out) | exact HB.out)⟩
         ·rw [if_neg c10] at H
          have c10b0 : (a0_8 == 0) = false := beq_eq_false_iff_ne.mpr c10
          have c10b1 : (a0_8 != 0) = true := bne_iff_ne.mpr c10
          obtain rfl := Option.some.inj H
          go_enter Tryz.func95, Tryz.ntmps95
          go_wp2_with (first | ((with_reducible refine kU (N := 1) rfl ?_); (try (refine kJ (by rfl) ?_; dsimp only)); refine kG ?hg (N := 1) ?hd (cs := #[.int .u8 a0_0, .int .u32 a0_1, .int .u32 a0_2, .slice A0_3 l0_3.length c0_3, .slice A0_4 l0_4.length c0_4, .int .u32 a0_5, .slice A0_6 l0_6.length c0_6, .int .i64 a0_7, .int .i64 a0_8, .slice A0_9 l0_9.length c0_9]) (t := 54) ?hr ?_; (case hd => rfl); (case hg => rfl); (case hr => first | (go_simp; done) | (go_simp; rfl)); intro gb108 hg w13 hbox hb; have n0_ := iC.mk (iF hb_ hb); have n1_ := iC.mk (hbox); have n2_ := iC.mk ((by rw [hg]; exact (iV hb_) : w.heap.size ≤ gb108)); have n3_ := iC.mk ((by rw [hg]; exact (iV hb_) : w.heap.size ≤ gb108)); clear HB; have HB := n0_; have BK108 := n1_; have GW108 := n2_; have GE108 := n3_; clear n0_ n1_ n2_ n3_; clear hb hbox hg; have hcz14_0 : w13.cell? ⟨gb108, 0, none⟩ = some (.int .u8 a0_0) := (iH BK108.out 0).trans rfl; have hcz14_1 : w13.cell? ⟨gb108, 1, none⟩ = some (.int .u32 a0_1) := (iH BK108.out 1).trans rfl; have hcz14_2 : w13.cell? ⟨gb108, 2, none⟩ = some (.int .u32 a0_2) := (iH BK108.out 2).trans rfl; have hcz14_3 : w13.cell? ⟨gb108, 3, none⟩ = some (.slice A0_3 l0_3.length c0_3) := (iH BK108.out 3).trans rfl; have hcz14_4 : w13.cell? ⟨gb108, 4, none⟩ = some (.slice A0_4 l0_4.length c0_4) := (iH BK108.out 4).trans rfl; have hcz14_5 : w13.cell? ⟨gb108, 5, none⟩ = some (.int .u32 a0_5) := (iH BK108.out 5).trans rfl; have hcz14_6 : w13.cell? ⟨gb108, 6, none⟩ = some (.slice A0_6 l0_6.length c0_6) := (iH BK108.out 6).trans rfl; have hcz14_7 : w13.cell? ⟨gb108, 7, none⟩ = some (.int .i64 a0_7) := (iH BK108.out 7).trans rfl; have hcz14_8 : w13.cell? ⟨gb108, 8, none⟩ = some (.int .i64 a0_8) := (iH BK108.out 8).trans rfl; have hcz14_9 : w13.cell? ⟨gb108, 9, none⟩ = some (.slice A0_9 l0_9.length c0_9) := (iH BK108.out 9).trans rfl; have hfz14_0 := iG BK108.out 0; have hfz14_1 := iG BK108.out 1; have hfz14_2 := iG BK108.out 2; have hfz14_3 := iG BK108.out 3; have hfz14_4 := iG BK108.out 4; have hfz14_5 := iG BK108.out 5; have hfz14_6 := iG BK108.out 6; have hfz14_7 := iG BK108.out 7; have hfz14_8 := iG BK108.out 8; have hfz14_9 := iG BK108.out 9))
          go_ret
          exact ⟨by first | rfl | (simp [jF, jE] <;> rfl) | (simp [*, jF, jE] <;> rfl), by repeat (first | (with_reducible first | exact HB.out | apply iD | apply iE | apply iT | refine iM ?_ GE108.out) | exact HB.out)⟩
        ·rw [if_neg c9] at H
         have c9b0 : (a0_7 == 0) = false := beq_eq_false_iff_ne.mpr c9
         have c9b1 : (a0_7 != 0) = true := bne_iff_ne.mpr c9
         obtain rfl := Option.some.inj H
         go_enter Tryz.func95, Tryz.ntmps95
         go_wp2_with (first | ((with_reducible refine kU (N := 1) rfl ?_); (try (refine kJ (by rfl) ?_; dsimp only)); refine kG ?hg (N := 1) ?hd (cs := #[.int .u8 a0_0, .int .u32 a0_1, .int .u32 a0_2, .slice A0_3 l0_3.length c0_3, .slice A0_4 l0_4.length c0_4, .int .u32 a0_5, .slice A0_6 l0_6.length c0_6, .int .i64 a0_7, .int .i64 a0_8, .slice A0_9 l0_9.length c0_9]) (t := 54) ?hr ?_; (case hd => rfl); (case hg => rfl); (case hr => first | (go_simp; done) | (go_simp; rfl)); intro gb108 hg w15 hbox hb; have n0_ := iC.mk (iF hb_ hb); have n1_ := iC.mk (hbox); have n2_ := iC.mk ((by rw [hg]; exact (iV hb_) : w.heap.size ≤ gb108)); have n3_ := iC.mk ((by rw [hg]; exact (iV hb_) : w.heap.size ≤ gb108)); clear HB; have HB := n0_; have BK108 := n1_; have GW108 := n2_; have GE108 := n3_; clear n0_ n1_ n2_ n3_; clear hb hbox hg; have hcz16_0 : w15.cell? ⟨gb108, 0, none⟩ = some (.int .u8 a0_0) := (iH BK108.out 0).trans rfl; have hcz16_1 : w15.cell? ⟨gb108, 1, none⟩ = some (.int .u32 a0_1) := (iH BK108.out 1).trans rfl; have hcz16_2 : w15.cell? ⟨gb108, 2, none⟩ = some (.int .u32 a0_2) := (iH BK108.out 2).trans rfl; have hcz16_3 : w15.cell? ⟨gb108, 3, none⟩ = some (.slice A0_3 l0_3.length c0_3) := (iH BK108.out 3).trans rfl; have hcz16_4 : w15.cell? ⟨gb108, 4, none⟩ = some (.slice A0_4 l0_4.length c0_4) := (iH BK108.out 4).trans rfl; have hcz16_5 : w15.cell? ⟨gb108, 5, none⟩ = some (.int .u32 a0_5) := (iH BK108.out 5).trans rfl; have hcz16_6 : w15.cell? ⟨gb108, 6, none⟩ = some (.slice A0_6 l0_6.length c0_6) := (iH BK108.out 6).trans rfl; have hcz16_7 : w15.cell? ⟨gb108, 7, none⟩ = some (.int .i64 a0_7) := (iH BK108.out 7).trans rfl; have hcz16_8 : w15.cell? ⟨gb108, 8, none⟩ = some (.int .i64 a0_8) := (iH BK108.out 8).trans rfl; have hcz16_9 : w15.cell? ⟨gb108, 9, none⟩ = some (.slice A0_9 l0_9.length c0_9) := (iH BK108.out 9).trans rfl; have hfz16_0 := iG BK108.out 0; have hfz16_1 := iG BK108.out 1; have hfz16_2 := iG BK108.out 2; have hfz16_3 := iG BK108.out 3; have hfz16_4 := iG BK108.out 4; have hfz16_5 := iG BK108.out 5; have hfz16_6 := iG BK108.out 6; have hfz16_7 := iG BK108.out 7; have hfz16_8 := iG BK108.out 8; have hfz16_9 := iG BK108.out 9))
         go_ret
         exact ⟨by first | rfl | (simp [jF, jE] <;> rfl) | (simp [*, jF, jE] <;> rfl), by repeat (first | (with_reducible first | exact HB.out | apply iD | apply iE | apply iT | refine iM ?_ GE108.out) | exact HB.out)⟩
       ·rw [if_neg c8] at H
        have c8b0 : ((l0_6.length : Int) == 0) = false := beq_eq_false_iff_ne.mpr c8
        have c8b1 : ((l0_6.length : Int) != 0) = true := bne_iff_ne.mpr c8
        have c8b2 : ¬ (l0_6 = []) := fun h_ => c8 (by rw [h_]; rfl)
        obtain rfl := Option.some.inj H
        go_enter Tryz.func95, Tryz.ntmps95
        go_wp2_with (first | ((with_reducible refine kU (N := 1) rfl ?_); (try (refine kJ (by rfl) ?_; dsimp only)); refine kG ?hg (N := 1) ?hd (cs := #[.int .u8 a0_0, .int .u32 a0_1, .int .u32 a0_2, .slice A0_3 l0_3.length c0_3, .slice A0_4 l0_4.length c0_4, .int .u32 a0_5, .slice A0_6 l0_6.length c0_6, .int .i64 a0_7, .int .i64 a0_8, .slice A0_9 l0_9.length c0_9]) (t := 54) ?hr ?_; (case hd => rfl); (case hg => rfl); (case hr => first | (go_simp; done) | (go_simp; rfl)); intro gb108 hg w17 hbox hb; have n0_ := iC.mk (iF hb_ hb); have n1_ := iC.mk (hbox); have n2_ := iC.mk ((by rw [hg]; exact (iV hb_) : w.heap.size ≤ gb108)); have n3_ := iC.mk ((by rw [hg]; exact (iV hb_) : w.heap.size ≤ gb108)); clear HB; have HB := n0_; have BK108 := n1_; have GW108 := n2_; have GE108 := n3_; clear n0_ n1_ n2_ n3_; clear hb hbox hg; have hcz18_0 : w17.cell? ⟨gb108, 0, none⟩ = some (.int .u8 a0_0) := (iH BK108.out 0).trans rfl; have hcz18_1 : w17.cell? ⟨gb108, 1, none⟩ = some (.int .u32 a0_1) := (iH BK108.out 1).trans rfl; have hcz18_2 : w17.cell? ⟨gb108, 2, none⟩ = some (.int .u32 a0_2) := (iH BK108.out 2).trans rfl; have hcz18_3 : w17.cell? ⟨gb108, 3, none⟩ = some (.slice A0_3 l0_3.length c0_3) := (iH BK108.out 3).trans rfl; have hcz18_4 : w17.cell? ⟨gb108, 4, none⟩ = some (.slice A0_4 l0_4.length c0_4) := (iH BK108.out 4).trans rfl; have hcz18_5 : w17.cell? ⟨gb108, 5, none⟩ = some (.int .u32 a0_5) := (iH BK108.out 5).trans rfl; have hcz18_6 : w17.cell? ⟨gb108, 6, none⟩ = some (.slice A0_6 l0_6.length c0_6) := (iH BK108.out 6).trans rfl; have hcz18_7 : w17.cell? ⟨gb108, 7, none⟩ = some (.int .i64 a0_7) := (iH BK108.out 7).trans rfl; have hcz18_8 : w17.cell? ⟨gb108, 8, none⟩ = some (.int .i64 a0_8) := (iH BK108.out 8).trans rfl; have hcz18_9 : w17.cell? ⟨gb108, 9, none⟩ = some (.slice A0_9 l0_9.length c0_9) := (iH BK108.out 9).trans rfl; have hfz18_0 := iG BK108.out 0; have hfz18_1 := iG BK108.out 1; have hfz18_2 := iG BK108.out 2; have hfz18_3 := iG BK108.out 3; have hfz18_4 := iG BK108.out 4; have hfz18_5 := iG BK108.out 5; have hfz18_6 := iG BK108.out 6; have hfz18_7 := iG BK108.out 7; have hfz18_8 := iG BK108.out 8; have hfz18_9 := iG BK108.out 9))
        go_ret
        exact ⟨by first | rfl | (simp [jF, jE] <;> rfl) | (simp [*, jF, jE] <;> rfl), by repeat (first | (with_reducible first | exact HB.out | apply iD | apply iE | apply iT | refine iM ?_ GE108.out) | exact HB.out)⟩
      ·rw [if_neg c7] at H
       have c7b0 : (a0_5 == 0) = false := beq_eq_false_iff_ne.mpr c7
       have c7b1 : (a0_5 != 0) = true := bne_iff_ne.mpr c7
       obtain rfl := Option.some.inj H
       go_enter Tryz.func95, Tryz.ntmps95
       go_wp2_with (first | ((with_reducible refine kU (N := 1) rfl ?_); (try (refine kJ (by rfl) ?_; dsimp only)); refine kG ?hg (N := 1) ?hd (cs := #[.int .u8 a0_0, .int .u32 a0_1, .int .u32 a0_2, .slice A0_3 l0_3.length c0_3, .slice A0_4 l0_4.length c0_4, .int .u32 a0_5, .slice A0_6 l0_6.length c0_6, .int .i64 a0_7, .int .i64 a0_8, .slice A0_9 l0_9.length c0_9]) (t := 54) ?hr ?_; (case hd => rfl); (case hg => rfl); (case hr => first | (go_simp; done) | (go_simp; rfl)); intro gb108 hg w19 hbox hb; have n0_ := iC.mk (iF hb_ hb); have n1_ := iC.mk (hbox); have n2_ := iC.mk ((by rw [hg]; exact (iV hb_) : w.heap.size ≤ gb108)); have n3_ := iC.mk ((by rw [hg]; exact (iV hb_) : w.heap.size ≤ gb108)); clear HB; have HB := n0_; have BK108 := n1_; have GW108 := n2_; have GE108 := n3_; clear n0_ n1_ n2_ n3_; clear hb hbox hg; have hcz20_0 : w19.cell? ⟨gb108, 0, none⟩ = some (.int .u8 a0_0) := (iH BK108.out 0).trans rfl; have hcz20_1 : w19.cell? ⟨gb108, 1, none⟩ = some (.int .u32 a0_1) := (iH BK108.out 1).trans rfl; have hcz20_2 : w19.cell? ⟨gb108, 2, none⟩ = some (.int .u32 a0_2) := (iH BK108.out 2).trans rfl; have hcz20_3 : w19.cell? ⟨gb108, 3, none⟩ = some (.slice A0_3 l0_3.length c0_3) := (iH BK108.out 3).trans rfl; have hcz20_4 : w19.cell? ⟨gb108, 4, none⟩ = some (.slice A0_4 l0_4.length c0_4) := (iH BK108.out 4).trans rfl; have hcz20_5 : w19.cell? ⟨gb108, 5, none⟩ = some (.int .u32 a0_5) := (iH BK108.out 5).trans rfl; have hcz20_6 : w19.cell? ⟨gb108, 6, none⟩ = some (.slice A0_6 l0_6.length c0_6) := (iH BK108.out 6).trans rfl; have hcz20_7 : w19.cell? ⟨gb108, 7, none⟩ = some (.int .i64 a0_7) := (iH BK108.out 7).trans rfl; have hcz20_8 : w19.cell? ⟨gb108, 8, none⟩ = some (.int .i64 a0_8) := (iH BK108.out 8).trans rfl; have hcz20_9 : w19.cell? ⟨gb108, 9, none⟩ = some (.slice A0_9 l0_9.length c0_9) := (iH BK108.out 9).trans rfl; have hfz20_0 := iG BK108.out 0; have hfz20_1 := iG BK108.out 1; have hfz20_2 := iG BK108.out 2; have hfz20_3 := iG BK108.out 3; have hfz20_4 := iG BK108.out 4; have hfz20_5 := iG BK108.out 5; have hfz20_6 := iG BK108.out 6; have hfz20_7 := iG BK108.out 7; have hfz20_8 := iG BK108.out 8; have hfz20_9 := iG BK108.out 9))
       go_ret
       exact ⟨by first | rfl | (simp [jF, jE] <;> rfl) | (simp [*, jF, jE] <;> rfl), by repeat (first | (with_reducible first | exact HB.out | apply iD | apply iE | apply iT | refine iM ?_ GE108.out) | exact HB.out)⟩
     ·rw [if_neg c6] at H
      have c6b0 : ((l0_4.length : Int) == 0) = false := beq_eq_false_iff_ne.mpr c6
      have c6b1 : ((l0_4.length : Int) != 0) = true := bne_iff_ne.mpr c6
      have c6b2 : ¬ (l0_4 = []) := fun h_ => c6 (by rw [h_]; rfl)
      obtain rfl := Option.some.inj H
      go_enter Tryz.func95, Tryz.ntmps95
      go_wp2_with (first | ((with_reducible refine kU (N := 1) rfl ?_); (try (refine kJ (by rfl) ?_; dsimp only)); refine kG ?hg (N := 1) ?hd (cs := #[.int .u8 a0_0, .int .u32 a0_1, .int .u32 a0_2, .slice A0_3 l0_3.length c0_3, .slice A0_4 l0_4.length c0_4, .int .u32 a0_5, .slice A0_6 l0_6.length c0_6, .int .i64 a0_7, .int .i64 a0_8, .slice A0_9 l0_9.length c0_9]) (t := 54) ?hr ?_; (case hd => rfl); (case hg => rfl); (case hr => first | (go_simp; done) | (go_simp; rfl)); intro gb108 hg w21 hbox hb; have n0_ := iC.mk (iF hb_ hb); have n1_ := iC.mk (hbox); have n2_ := iC.mk ((by rw [hg]; exact (iV hb_) : w.heap.size ≤ gb108)); have n3_ := iC.mk ((by rw [hg]; exact (iV hb_) : w.heap.size ≤ gb108)); clear HB; have HB := n0_; have BK108 := n1_; have GW108 := n2_; have GE108 := n3_; clear n0_ n1_ n2_ n3_; clear hb hbox hg; have hcz22_0 : w21.cell? ⟨gb108, 0, none⟩ = some (.int .u8 a0_0) := (iH BK108.out 0).trans rfl; have hcz22_1 : w21.cell? ⟨gb108, 1, none⟩ = some (.int .u32 a0_1) := (iH BK108.out 1).trans rfl; have hcz22_2 : w21.cell? ⟨gb108, 2, none⟩ = some (.int .u32 a0_2) := (iH BK108.out 2).trans rfl; have hcz22_3 : w21.cell? ⟨gb108, 3, none⟩ = some (.slice A0_3 l0_3.length c0_3) := (iH BK108.out 3).trans rfl; have hcz22_4 : w21.cell? ⟨gb108, 4, none⟩ = some (.slice A0_4 l0_4.length c0_4) := (iH BK108.out 4).trans rfl; have hcz22_5 : w21.cell? ⟨gb108, 5, none⟩ = some (.int .u32 a0_5) := (iH BK108.out 5).trans rfl; have hcz22_6 : w21.cell? ⟨gb108, 6, none⟩ = some (.slice A0_6 l0_6.length c0_6) := (iH BK108.out 6).trans rfl; have hcz22_7 : w21.cell? ⟨gb108, 7, none⟩ = some (.int .i64 a0_7) := (iH BK108.out 7).trans rfl; have hcz22_8 : w21.cell? ⟨gb108, 8, none⟩ = some (.int .i64 a0_8) := (iH BK108.out 8).trans rfl; have hcz22_9 : w21.cell? ⟨gb108, 9, none⟩ = some (.slice A0_9 l0_9.length c0_9) := (iH BK108.out 9).trans rfl; have hfz22_0 := iG BK108.out 0; have hfz22_1 := iG BK108.out 1; have hfz22_2 := iG BK108.out 2; have hfz22_3 := iG BK108.out 3; have hfz22_4 := iG BK108.out 4; have hfz22_5 := iG BK108.out 5; have hfz22_6 := iG BK108.out 6; have hfz22_7 := iG BK108.out 7; have hfz22_8 := iG BK108.out 8; have hfz22_9 := iG BK108.out 9))
      go_ret
      exact ⟨by first | rfl | (simp [jF, jE] <;> rfl) | (simp [*, jF, jE] <;> rfl), by repeat (first | (with_reducible first | exact HB.out | apply iD | apply iE | apply iT | refine iM ?_ GE108.out) | exact HB.out)⟩
    ·rw [if_neg c5] at H
     have c5b0 : ((l0_3.length : Int) == 0) = false := beq_eq_false_iff_ne.mpr c5
     have c5b1 : ((l0_3.length : Int) != 0) = true := bne_iff_ne.mpr c5
     have c5b2 : ¬ (l0_3 = []) := fun h_ => c5 (by rw [h_]; rfl)
     obtain rfl := Option.some.inj H
     go_enter Tryz.func95, Tryz.ntmps95
     go_wp2_with (first | ((with_reducible refine kU (N := 1) rfl ?_); (try (refine kJ (by rfl) ?_; dsimp only)); refine kG ?hg (N := 1) ?hd (cs := #[.int .u8 a0_0, .int .u32 a0_1, .int .u32 a0_2, .slice A0_3 l0_3.length c0_3, .slice A0_4 l0_4.length c0_4, .int .u32 a0_5, .slice A0_6 l0_6.length c0_6, .int .i64 a0_7, .int .i64 a0_8, .slice A0_9 l0_9.length c0_9]) (t := 54) ?hr ?_; (case hd => rfl); (case hg => rfl); (case hr => first | (go_simp; done) | (go_simp; rfl)); intro gb108 hg w23 hbox hb; have n0_ := iC.mk (iF hb_ hb); have n1_ := iC.mk (hbox); have n2_ := iC.mk ((by rw [hg]; exact (iV hb_) : w.heap.size ≤ gb108)); have n3_ := iC.mk ((by rw [hg]; exact (iV hb_) : w.heap.size ≤ gb108)); clear HB; have HB := n0_; have BK108 := n1_; have GW108 := n2_; have GE108 := n3_; clear n0_ n1_ n2_ n3_; clear hb hbox hg; have hcz24_0 : w23.cell? ⟨gb108, 0, none⟩ = some (.int .u8 a0_0) := (iH BK108.out 0).trans rfl; have hcz24_1 : w23.cell? ⟨gb108, 1, none⟩ = some (.int .u32 a0_1) := (iH BK108.out 1).trans rfl; have hcz24_2 : w23.cell? ⟨gb108, 2, none⟩ = some (.int .u32 a0_2) := (iH BK108.out 2).trans rfl; have hcz24_3 : w23.cell? ⟨gb108, 3, none⟩ = some (.slice A0_3 l0_3.length c0_3) := (iH BK108.out 3).trans rfl; have hcz24_4 : w23.cell? ⟨gb108, 4, none⟩ = some (.slice A0_4 l0_4.length c0_4) := (iH BK108.out 4).trans rfl; have hcz24_5 : w23.cell? ⟨gb108, 5, none⟩ = some (.int .u32 a0_5) := (iH BK108.out 5).trans rfl; have hcz24_6 : w23.cell? ⟨gb108, 6, none⟩ = some (.slice A0_6 l0_6.length c0_6) := (iH BK108.out 6).trans rfl; have hcz24_7 : w23.cell? ⟨gb108, 7, none⟩ = some (.int .i64 a0_7) := (iH BK108.out 7).trans rfl; have hcz24_8 : w23.cell? ⟨gb108, 8, none⟩ = some (.int .i64 a0_8) := (iH BK108.out 8).trans rfl; have hcz24_9 : w23.cell? ⟨gb108, 9, none⟩ = some (.slice A0_9 l0_9.length c0_9) := (iH BK108.out 9).trans rfl; have hfz24_0 := iG BK108.out 0; have hfz24_1 := iG BK108.out 1; have hfz24_2 := iG BK108.out 2; have hfz24_3 := iG BK108.out 3; have hfz24_4 := iG BK108.out 4; have hfz24_5 := iG BK108.out 5; have hfz24_6 := iG BK108.out 6; have hfz24_7 := iG BK108.out 7; have hfz24_8 := iG BK108.out 8; have hfz24_9 := iG BK108.out 9))
     go_ret
     exact ⟨by first | rfl | (simp [jF, jE] <;> rfl) | (simp [*, jF, jE] <;> rfl), by repeat (first | (with_reducible first | exact HB.out | apply iD | apply iE | apply iT | refine iM ?_ GE108.out) | exact HB.out)⟩
   ·rw [if_neg c4] at H
    have c4b0 : (a0_2 == 0) = false := beq_eq_false_iff_ne.mpr c4
    have c4b1 : (a0_2 != 0) = true := bne_iff_ne.mpr c4
    obtain rfl := Option.some.inj H
    go_enter Tryz.func95, Tryz.ntmps95
    go_wp2_with (first | ((with_reducible refine kU (N := 1) rfl ?_); (try (refine kJ (by rfl) ?_; dsimp only)); refine kG ?hg (N := 1) ?hd (cs := #[.int .u8 a0_0, .int .u32 a0_1, .int .u32 a0_2, .slice A0_3 l0_3.length c0_3, .slice A0_4 l0_4.length c0_4, .int .u32 a0_5, .slice A0_6 l0_6.length c0_6, .int .i64 a0_7, .int .i64 a0_8, .slice A0_9 l0_9.length c0_9]) (t := 54) ?hr ?_; (case hd => rfl); (case hg => rfl); (case hr => first | (go_simp; done) | (go_simp; rfl)); intro gb108 hg w25 hbox hb; have n0_ := iC.mk (iF hb_ hb); have n1_ := iC.mk (hbox); have n2_ := iC.mk ((by rw [hg]; exact (iV hb_) : w.heap.size ≤ gb108)); have n3_ := iC.mk ((by rw [hg]; exact (iV hb_) : w.heap.size ≤ gb108)); clear HB; have HB := n0_; have BK108 := n1_; have GW108 := n2_; have GE108 := n3_; clear n0_ n1_ n2_ n3_; clear hb hbox hg; have hcz26_0 : w25.cell? ⟨gb108, 0, none⟩ = some (.int .u8 a0_0) := (iH BK108.out 0).trans rfl; have hcz26_1 : w25.cell? ⟨gb108, 1, none⟩ = some (.int .u32 a0_1) := (iH BK108.out 1).trans rfl; have hcz26_2 : w25.cell? ⟨gb108, 2, none⟩ = some (.int .u32 a0_2) := (iH BK108.out 2).trans rfl; have hcz26_3 : w25.cell? ⟨gb108, 3, none⟩ = some (.slice A0_3 l0_3.length c0_3) := (iH BK108.out 3).trans rfl; have hcz26_4 : w25.cell? ⟨gb108, 4, none⟩ = some (.slice A0_4 l0_4.length c0_4) := (iH BK108.out 4).trans rfl; have hcz26_5 : w25.cell? ⟨gb108, 5, none⟩ = some (.int .u32 a0_5) := (iH BK108.out 5).trans rfl; have hcz26_6 : w25.cell? ⟨gb108, 6, none⟩ = some (.slice A0_6 l0_6.length c0_6) := (iH BK108.out 6).trans rfl; have hcz26_7 : w25.cell? ⟨gb108, 7, none⟩ = some (.int .i64 a0_7) := (iH BK108.out 7).trans rfl; have hcz26_8 : w25.cell? ⟨gb108, 8, none⟩ = some (.int .i64 a0_8) := (iH BK108.out 8).trans rfl; have hcz26_9 : w25.cell? ⟨gb108, 9, none⟩ = some (.slice A0_9 l0_9.length c0_9) := (iH BK108.out 9).trans rfl; have hfz26_0 := iG BK108.out 0; have hfz26_1 := iG BK108.out 1; have hfz26_2 := iG BK108.out 2; have hfz26_3 := iG BK108.out 3; have hfz26_4 := iG BK108.out 4; have hfz26_5 := iG BK108.out 5; have hfz26_6 := iG BK108.out 6; have hfz26_7 := iG BK108.out 7; have hfz26_8 := iG BK108.out 8; have hfz26_9 := iG BK108.out 9))
    go_ret
    exact ⟨by first | rfl | (simp [jF, jE] <;> rfl) | (simp [*, jF, jE] <;> rfl), by repeat (first | (with_reducible first | exact HB.out | apply iD | apply iE | apply iT | refine iM ?_ GE108.out) | exact HB.out)⟩
  ·rw [if_neg c3] at H
   have c3b0 : (a0_1 == 0) = false := beq_eq_false_iff_ne.mpr c3
   have c3b1 : (a0_1 != 0) = true := bne_iff_ne.mpr c3
   obtain rfl := Option.some.inj H
   go_enter Tryz.func95, Tryz.ntmps95
   go_wp2_with (first | ((with_reducible refine kU (N := 1) rfl ?_); (try (refine kJ (by rfl) ?_; dsimp only)); refine kG ?hg (N := 1) ?hd (cs := #[.int .u8 a0_0, .int .u32 a0_1, .int .u32 a0_2, .slice A0_3 l0_3.length c0_3, .slice A0_4 l0_4.length c0_4, .int .u32 a0_5, .slice A0_6 l0_6.length c0_6, .int .i64 a0_7, .int .i64 a0_8, .slice A0_9 l0_9.length c0_9]) (t := 54) ?hr ?_; (case hd => rfl); (case hg => rfl); (case hr => first | (go_simp; done) | (go_simp; rfl)); intro gb108 hg w27 hbox hb; have n0_ := iC.mk (iF hb_ hb); have n1_ := iC.mk (hbox); have n2_ := iC.mk ((by rw [hg]; exact (iV hb_) : w.heap.size ≤ gb108)); have n3_ := iC.mk ((by rw [hg]; exact (iV hb_) : w.heap.size ≤ gb108)); clear HB; have HB := n0_; have BK108 := n1_; have GW108 := n2_; have GE108 := n3_; clear n0_ n1_ n2_ n3_; clear hb hbox hg; have hcz28_0 : w27.cell? ⟨gb108, 0, none⟩ = some (.int .u8 a0_0) := (iH BK108.out 0).trans rfl; have hcz28_1 : w27.cell? ⟨gb108, 1, none⟩ = some (.int .u32 a0_1) := (iH BK108.out 1).trans rfl; have hcz28_2 : w27.cell? ⟨gb108, 2, none⟩ = some (.int .u32 a0_2) := (iH BK108.out 2).trans rfl; have hcz28_3 : w27.cell? ⟨gb108, 3, none⟩ = some (.slice A0_3 l0_3.length c0_3) := (iH BK108.out 3).trans rfl; have hcz28_4 : w27.cell? ⟨gb108, 4, none⟩ = some (.slice A0_4 l0_4.length c0_4) := (iH BK108.out 4).trans rfl; have hcz28_5 : w27.cell? ⟨gb108, 5, none⟩ = some (.int .u32 a0_5) := (iH BK108.out 5).trans rfl; have hcz28_6 : w27.cell? ⟨gb108, 6, none⟩ = some (.slice A0_6 l0_6.length c0_6) := (iH BK108.out 6).trans rfl; have hcz28_7 : w27.cell? ⟨gb108, 7, none⟩ = some (.int .i64 a0_7) := (iH BK108.out 7).trans rfl; have hcz28_8 : w27.cell? ⟨gb108, 8, none⟩ = some (.int .i64 a0_8) := (iH BK108.out 8).trans rfl; have hcz28_9 : w27.cell? ⟨gb108, 9, none⟩ = some (.slice A0_9 l0_9.length c0_9) := (iH BK108.out 9).trans rfl; have hfz28_0 := iG BK108.out 0; have hfz28_1 := iG BK108.out 1; have hfz28_2 := iG BK108.out 2; have hfz28_3 := iG BK108.out 3; have hfz28_4 := iG BK108.out 4; have hfz28_5 := iG BK108.out 5; have hfz28_6 := iG BK108.out 6; have hfz28_7 := iG BK108.out 7; have hfz28_8 := iG BK108.out 8; have hfz28_9 := iG BK108.out 9))
   go_ret
   exact ⟨by first | rfl | (simp [jF, jE] <;> rfl) | (simp [*, jF, jE] <;> rfl), by repeat (first | (with_reducible first | exact HB.out | apply iD | apply iE | apply iT | refine iM ?_ GE108.out) | exact HB.out)⟩
 ·rw [if_neg c2] at H
  have c2b0 : (a0_0 == 0) = false := beq_eq_false_iff_ne.mpr c2
  have c2b1 : (a0_0 != 0) = true := bne_iff_ne.mpr c2
  obtain rfl := Option.some.inj H
  go_enter Tryz.func95, Tryz.ntmps95
  go_wp2_with (first | ((with_reducible refine kU (N := 1) rfl ?_); (try (refine kJ (by rfl) ?_; dsimp only)); refine kG ?hg (N := 1) ?hd (cs := #[.int .u8 a0_0, .int .u32 a0_1, .int .u32 a0_2, .slice A0_3 l0_3.length c0_3, .slice A0_4 l0_4.length c0_4, .int .u32 a0_5, .slice A0_6 l0_6.length c0_6, .int .i64 a0_7, .int .i64 a0_8, .slice A0_9 l0_9.length c0_9]) (t := 54) ?hr ?_; (case hd => rfl); (case hg => rfl); (case hr => first | (go_simp; done) | (go_simp; rfl)); intro gb108 hg w29 hbox hb; have n0_ := iC.mk (iF hb_ hb); have n1_ := iC.mk (hbox); have n2_ := iC.mk ((by rw [hg]; exact (iV hb_) : w.heap.size ≤ gb108)); have n3_ := iC.mk ((by rw [hg]; exact (iV hb_) : w.heap.size ≤ gb108)); clear HB; have HB := n0_; have BK108 := n1_; have GW108 := n2_; have GE108 := n3_; clear n0_ n1_ n2_ n3_; clear hb hbox hg; have hcz30_0 : w29.cell? ⟨gb108, 0, none⟩ = some (.int .u8 a0_0) := (iH BK108.out 0).trans rfl; have hcz30_1 : w29.cell? ⟨gb108, 1, none⟩ = some (.int .u32 a0_1) := (iH BK108.out 1).trans rfl; have hcz30_2 : w29.cell? ⟨gb108, 2, none⟩ = some (.int .u32 a0_2) := (iH BK108.out 2).trans rfl; have hcz30_3 : w29.cell? ⟨gb108, 3, none⟩ = some (.slice A0_3 l0_3.length c0_3) := (iH BK108.out 3).trans rfl; have hcz30_4 : w29.cell? ⟨gb108, 4, none⟩ = some (.slice A0_4 l0_4.length c0_4) := (iH BK108.out 4).trans rfl; have hcz30_5 : w29.cell? ⟨gb108, 5, none⟩ = some (.int .u32 a0_5) := (iH BK108.out 5).trans rfl; have hcz30_6 : w29.cell? ⟨gb108, 6, none⟩ = some (.slice A0_6 l0_6.length c0_6) := (iH BK108.out 6).trans rfl; have hcz30_7 : w29.cell? ⟨gb108, 7, none⟩ = some (.int .i64 a0_7) := (iH BK108.out 7).trans rfl; have hcz30_8 : w29.cell? ⟨gb108, 8, none⟩ = some (.int .i64 a0_8) := (iH BK108.out 8).trans rfl; have hcz30_9 : w29.cell? ⟨gb108, 9, none⟩ = some (.slice A0_9 l0_9.length c0_9) := (iH BK108.out 9).trans rfl; have hfz30_0 := iG BK108.out 0; have hfz30_1 := iG BK108.out 1; have hfz30_2 := iG BK108.out 2; have hfz30_3 := iG BK108.out 3; have hfz30_4 := iG BK108.out 4; have hfz30_5 := iG BK108.out 5; have hfz30_6 := iG BK108.out 6; have hfz30_7 := iG BK108.out 7; have hfz30_8 := iG BK108.out 8; have hfz30_9 := iG BK108.out 9))
  go_ret
  exact ⟨by first | rfl | (simp [jF, jE] <;> rfl) | (simp [*, jF, jE] <;> rfl), by repeat (first | (with_reducible first | exact HB.out | apply iD | apply iE | apply iT | refine iM ?_ GE108.out) | exact HB.out)⟩
end Go.Proofs.YtgfkgppomaapiaaGreatDoor.K
end

section
namespace Go.Proofs.YtgfkgppomaapiaaGreatDoor.K
open RowKit YtgfkgppomaapiaaGreatDoorW.PrintWords YtgfkgppomaapiaaGreatDoorW.PrintLast YtgfkgppomaapiaaGreatDoorW.PrintMore My
theorem PT {w w' : World} (h : jB w w') : Below w.heap.size w w' := by
 obtain ⟨n, rfl⟩ := h
 exact iE (Below.refl _ _) n
theorem oJ {i : Int} {n : Nat} (h0 : 0 ≤ i) (h : i < (n : Int)) (hn : n ≤ 9223372036854775807) : wrap64 (i + 1) = i + 1 := by unfold wrap64; omega
theorem YI (l : List Int) (hn : l.length ≤ 9223372036854775807) (d : Nat) : ∀ (k : Nat) (last i : Int), 0 ≤ i → i ≤ l.length → (l.length : Int) - i = d → d < k → code_rises.l0 k last l (l.length : Int) i = some (mP last (l.drop i.toNat)) := by
 induction d with
 | zero =>
  intro k last i h0 h1 hd hk
  obtain ⟨k, rfl⟩ : ∃ m, k = m + 1 := ⟨k - 1, by omega⟩
  simp only [code_rises.l0]
  rw [if_neg (by omega), List.drop_of_length_le (by omega)]
  rfl
 | succ d ih =>
  intro k last i h0 h1 hd hk
  obtain ⟨k, rfl⟩ : ∃ m, k = m + 1 := ⟨k - 1, by omega⟩
  have hlt : i < (l.length : Int) := by omega
  have hnat : i.toNat < l.length := by omega
  have hdrop : l.drop i.toNat = rd l i :: l.drop (i + 1).toNat := by
   rw [List.drop_eq_getElem_cons hnat, show (i + 1).toNat = i.toNat + 1 by omega]
   congr 1
   unfold rd
   rw [List.getD_eq_getElem?_getD, List.getElem?_eq_getElem hnat]
   rfl
  simp only [code_rises.l0]
  rw [if_pos hlt, if_pos h0, if_pos hlt, hdrop, mP]
  by_cases c1 : rd l i ≤ last
  ·rw [if_pos c1, decide_eq_false (by omega : ¬ last < rd l i)]
   rfl
  ·rw [if_neg c1, decide_eq_true (by omega : last < rd l i)]
   by_cases c2 : rd l i ≥ 6
   ·rw [if_pos c2, decide_eq_false (by omega : ¬ rd l i < 6)]
    rfl
   ·rw [if_neg c2, decide_eq_true (by omega : rd l i < 6), oJ h0 hlt hn]
    exact ih k _ (i + 1) (by omega) (by omega) (by omega) (by omega)
theorem rV (A : Option Addr) (c : Nat) (l : List Int) (w : World) (hr : Kd.C (Kd.int .i64) w A l.length l) (hc : l.length ≤ c) :
  Calls Tryz.prog 89 #[.slice A l.length c] w fun e w' => e = .returned (.bool (mP (-1) l)) ∧ Below w.heap.size w w' :=
 (code_rises.calls (l.length + 1) A c l _ w hr hc (by unfold code_rises.f; rw [YI l (kZ hr) l.length (l.length + 1) (-1) 0 (by omega) (by omega) (by omega) (by omega)]; rfl)).mono fun _ _ ⟨he, hd⟩ => ⟨he, PT hd⟩
def gapB (p : Option Int) (a : Int) : Bool := match p with | none => true | some q => decide (q < a)
theorem vK (p : Option Int) (e : jL) (l : List jL) : oL p (e :: l) = (mD e.f1 && gapB p e.f0 && oL (some e.f0) l) := by
 cases p <;> rfl
def uP (l : List jL) (i : Int) : Option Int := if 0 < i then some (iK l (i - 1)).f0 else none
theorem TN (l : List jL) (hn : l.length ≤ 9223372036854775807) (d : Nat) : ∀ (k : Nat) (i : Int), 0 ≤ i → i ≤ l.length → (l.length : Int) - i = d → d < k →
  code_history.l0 k l l (l.length : Int) i = some (oL (uP l i) (l.drop i.toNat) && decide ((l.length : Int) ≤ 5000)) := by
 induction d with
 | zero =>
  intro k i h0 h1 hd hk
  obtain ⟨k, rfl⟩ : ∃ m, k = m + 1 := ⟨k - 1, by omega⟩
  simp only [code_history.l0]
  rw [if_neg (by omega), List.drop_of_length_le (by omega)]
  rfl
 | succ d ih =>
  intro k i h0 h1 hd hk
  obtain ⟨k, rfl⟩ : ∃ m, k = m + 1 := ⟨k - 1, by omega⟩
  have hlt : i < (l.length : Int) := by omega
  have hnat : i.toNat < l.length := by omega
  have hdrop : l.drop i.toNat = iK l i :: l.drop (i + 1).toNat := by
   rw [List.drop_eq_getElem_cons hnat, show (i + 1).toNat = i.toNat + 1 by omega]
   congr 1
   unfold iK
   rw [List.getD_eq_getElem?_getD, List.getElem?_eq_getElem hnat]
   rfl
  have hnext : uP l (i + 1) = some (iK l i).f0 := by
   unfold uP
   rw [if_pos (by omega), show i + 1 - 1 = i by omega]
  have hih := ih k (i + 1) (by omega) (by omega) (by omega) (by omega)
  rw [hnext] at hih
  simp only [code_history.l0]
  rw [if_pos hlt, if_pos h0, if_pos hlt, hdrop, vK]
  simp only [code_batch.f, Option.bind_some]
  rw [oJ h0 hlt hn, hih]
  cases mD (iK l i).f1 with
  | false => rfl
  | true =>
   rw [if_pos rfl]
   by_cases hi : i > 0
   ·have hw : wrap64 (i - 1) = i - 1 := by unfold wrap64; omega
    rw [if_pos hi, hw, if_pos (by omega), if_pos (by omega)]
    unfold uP gapB
    rw [if_pos hi]
    simp only [Bool.true_and]
    by_cases c1 : (iK l i).f0 ≤ (iK l (i - 1)).f0
    ·rw [if_pos c1, decide_eq_false (show ¬ (iK l (i - 1)).f0 < (iK l i).f0 by omega)]
     rfl
    ·rw [if_neg c1, decide_eq_true (show (iK l (i - 1)).f0 < (iK l i).f0 by omega)]
     rfl
   ·rw [if_neg hi]
    unfold uP gapB
    rw [if_neg hi]
    rfl
theorem oD (A : Option Addr) (c : Nat) (l : List jL) (w : World) (hr : Kd.C k114 w A l.length l) (hc : l.length ≤ c) :
  Calls Tryz.prog 94 #[.slice A l.length c] w fun e w' => e = .returned (.bool (nO l && decide ((l.length : Int) ≤ 5000))) ∧ Below w.heap.size w w' :=
 code_history.calls (l.length + 1) A c l _ w hr hc (by unfold code_history.f; rw [TN l (kZ hr) l.length (l.length + 1) 0 (by omega) (by omega) (by omega) (by omega)]; rfl)
def mF (a0 a1 a2 : Int) (l3 : List Int) (l4 : List jR) (a5 : Int) (l6 : List kD) (a7 a8 : Int) (l9 : List jL) : Bool :=
 a0 == 0 && a1 == 0 && a2 == 0 && l3.isEmpty && l4.isEmpty && a5 == 0 && l6.isEmpty && a7 == 0 && a8 == 0 && l9.isEmpty
theorem RF {α : Type} (l : List α) : ((l.length : Int) = 0) = (l.isEmpty = true) := by
 cases l with
 | nil => simp
 | cons x l => simp; omega
theorem YB (a0 a1 a2 : Int) (l3 : List Int) (l4 : List jR) (a5 : Int) (l6 : List kD) (a7 a8 : Int) (l9 : List jL) : code_plain.f a0 a1 a2 l3 l4 a5 l6 a7 a8 l9 = some (mF a0 a1 a2 l3 l4 a5 l6 a7 a8 l9) := by
 unfold code_plain.f mF
 have e9 : ((l9.length : Int) == 0) = l9.isEmpty := by
  rw [Bool.eq_iff_iff, beq_iff_eq, RF]
 rw [e9]
 simp only [RF]
 by_cases h0 : a0 = 0
 ·by_cases h1 : a1 = 0
  ·by_cases h2 : a2 = 0
   ·cases h3 : l3.isEmpty
    ·simp [h0, h1, h2]
    ·cases h4 : l4.isEmpty
     ·simp [h0, h1, h2]
     ·by_cases h5 : a5 = 0
      ·cases h6 : l6.isEmpty
       ·simp [h0, h1, h2, h5]
       ·by_cases h7 : a7 = 0
        ·by_cases h8 : a8 = 0
         ·simp [h0, h1, h2, h5, h7, h8]
         ·simp [h0, h1, h2, h5, h7, h8]
        ·simp [h0, h1, h2, h5, h7]
      ·simp [h0, h1, h2, h5]
   ·simp [h0, h1, h2]
  ·simp [h0, h1]
 ·simp [h0]
theorem ZM (s : kD) : mM s = (decide (0 ≤ s.f0) && decide (s.f0 ≤ 9999) && decide (0 ≤ s.f1) && decide (s.f1 < 6)) := rfl
set_option maxHeartbeats 1000000 in
theorem YA (s : kD) (w : World) :
  Calls Tryz.prog 93 #[.agg #[.int .i64 s.f0, .int .i64 s.f1]] w fun e w' => e = .returned (.bool (mM s)) ∧ Below w.heap.size w w' := by
 rw [ZM]
 by_cases h0 : 0 ≤ s.f0
 ·by_cases h1 : s.f0 ≤ 9999
  ·by_cases h2 : 0 ≤ s.f1
   ·by_cases h3 : s.f1 < 6
    ·rw [decide_eq_true h0, decide_eq_true h1, decide_eq_true h2, decide_eq_true h3]
     go_enter Tryz.func93, Tryz.ntmps93
     go_wp2
     go_ret
     exact ⟨rfl, iD (Below.refl _ _) _⟩
    ·rw [decide_eq_true h0, decide_eq_true h1, decide_eq_true h2, decide_eq_false h3]
     go_enter Tryz.func93, Tryz.ntmps93
     go_wp2
     go_ret
     exact ⟨rfl, iD (Below.refl _ _) _⟩
   ·rw [decide_eq_true h0, decide_eq_true h1, decide_eq_false h2, Bool.and_false, Bool.false_and]
    go_enter Tryz.func93, Tryz.ntmps93
    go_wp2
    go_ret
    exact ⟨rfl, iD (Below.refl _ _) _⟩
  ·rw [decide_eq_true h0, decide_eq_false h1, Bool.and_false, Bool.false_and, Bool.false_and]
   go_enter Tryz.func93, Tryz.ntmps93
   go_wp2
   go_ret
   exact ⟨rfl, iD (Below.refl _ _) _⟩
 ·rw [decide_eq_false h0, Bool.false_and, Bool.false_and, Bool.false_and]
  go_enter Tryz.func93, Tryz.ntmps93
  go_wp2
  go_ret
  exact ⟨rfl, iD (Below.refl _ _) _⟩
set_option maxHeartbeats 400000 in
theorem PN (s : kD) (w : World) :
  Calls Tryz.prog 92 #[.agg #[.int .i64 s.f0, .int .i64 s.f1]] w fun e w' => e = .returned (.bool (!mM s)) ∧ Below w.heap.size w w' := by
 have hcall := YA s (w.alloc (.cells #[.int .i64 s.f0, .int .i64 s.f1] 122))
 generalize mM s = b at hcall
 go_enter Tryz.func92, Tryz.ntmps92
 go_wp2_with (go_at_call 93; refine hcall.mono ?_; rintro e w' ⟨rfl, hb⟩)
 go_ret
 exact ⟨rfl, iF (iD (Below.refl _ _) _) hb⟩
def zJ : kD := z122
set_option maxHeartbeats 1000000 in
theorem PR (A : Option Addr) (c : Nat) (l : List kD) (w : World) (hr : Kd.C k122 w A l.length l) :
  Calls Tryz.prog 113 #[.slice A l.length c, .func (.func 92) #[] #[]] w (NZ (l.any fun f => !mM f) w) := by
 have hm := kZ hr
 have HR := iC.mk hr
 clear hr
 go_enter Tryz.func113, Tryz.ntmps113
 go_wp2
 go_loopg [5, 8] l.length (fun gg _ s8 wr => ∃ k : Nat, k ≤ l.length ∧ l.length - k ≤ gg ∧ s8 = .int .i64 k ∧ iC (Below w.heap.size w wr) ∧ iC ((l.take k).any (fun f => !mM f) = false))
 case atStart => exact ⟨0, Nat.zero_le _, by omega, rfl, ⟨Below.refl _ _⟩, ⟨rfl⟩⟩
 case round =>
  obtain ⟨k, hk, hg, rfl, HW, HA⟩ := hrel
  by_cases hlt : k < l.length
  ·obtain ⟨ad, rfl, hx0, hx1⟩ := lI (Kd.C_below HR.out HW.out) (k : Int) (by omega) (by omega)
   have hsn := any_take_succ (fun f => !mM f) zJ l k hlt
   have hgd : jM l (k : Int) = l.getD k zJ := by unfold jM zJ; rw [Int.toNat_natCast]
   rw [hgd] at hx0 hx1
   rw [Int.toNat_natCast] at hx0 hx1
   clear hgd
   obtain ⟨f, hf⟩ : ∃ v, v = l.getD k zJ := ⟨_, rfl⟩
   rw [← hf] at hx0 hx1 hsn
   have hcall := PN f wr
   cases hq : (!mM f) with
   | true =>
    have HH := iC.mk (OX (fun f => !mM f) zJ l k hlt (by rw [← hf]; exact hq))
    rw [hq] at hcall
    clear hf hsn hq
    go_wp2_with (go_at_call 92; refine hcall.mono ?_; rintro e w' ⟨rfl, hb⟩)
    go_ret
    exact ⟨k, rfl, by rw [HH.out]; simp, iF HW.out hb⟩
   | false =>
    have HN := iC.mk (show (l.take (k + 1)).any (fun f => !mM f) = false by rw [hsn, HA.out, hq]; rfl)
    rw [hq] at hcall
    clear hf hsn hq
    go_wp2_with (go_at_call 92; refine hcall.mono ?_; rintro e w' ⟨rfl, hb⟩)
    go_roundg (l.length - (k + 1))
    case measure => omega
    case rel => exact ⟨k + 1, by omega, by omega, by go_num, ⟨iF HW.out hb⟩, HN⟩
  ·have : k = l.length := by omega
   subst this
   go_wp2
   go_ret
   exact ⟨-1, rfl, by rw [JS _ _ HA.out]; rfl, HW.out⟩
set_option maxHeartbeats 400000 in
theorem zI (A : Option Addr) (c : Nat) (l : List kD) (w : World) (hr : Kd.C k122 w A l.length l) :
  Calls Tryz.prog 91 #[.slice A l.length c, .func (.func 92) #[] #[]] w fun e w' => e = .returned (.bool (l.any fun f => !mM f)) ∧ Below w.heap.size w w' := by
 have hcall := PR A c l w hr
 clear hr
 generalize (l.any fun f => !mM f) = b at hcall
 go_enter Tryz.func91, Tryz.ntmps91
 go_wp2_with (go_at_call 113; refine hcall.mono ?_; rintro e w' ⟨r, rfl, hr, hb⟩; have HR := iC.mk hr; clear hr)
 go_ret
 exact ⟨by rw [← HR.out]; rfl, hb⟩
end Go.Proofs.YtgfkgppomaapiaaGreatDoor.K
end

section
namespace Go.Proofs.YtgfkgppomaapiaaGreatDoor.K
open RowKit YtgfkgppomaapiaaGreatDoorW.PrintWords YtgfkgppomaapiaaGreatDoorW.PrintLast YtgfkgppomaapiaaGreatDoorW.PrintMore My
theorem ten {w : World} {b t : Nat} {v0 v1 v2 v3 v4 v5 v6 v7 v8 v9 : Value} (h : w.heap[b]? = some (.cells #[v0, v1, v2, v3, v4, v5, v6, v7, v8, v9] t (0, 0))) :
  w.cell? ⟨b, 0, none⟩ = some v0 ∧ w.cell? ⟨b, 1, none⟩ = some v1 ∧ w.cell? ⟨b, 2, none⟩ = some v2 ∧ w.cell? ⟨b, 3, none⟩ = some v3 ∧ w.cell? ⟨b, 4, none⟩ = some v4 ∧ w.cell? ⟨b, 5, none⟩ = some v5 ∧ w.cell? ⟨b, 6, none⟩ = some v6 ∧ w.cell? ⟨b, 7, none⟩ = some v7 ∧ w.cell? ⟨b, 8, none⟩ = some v8 ∧ w.cell? ⟨b, 9, none⟩ = some v9 ∧
  w.frozen? ⟨b, 0, none⟩ = false ∧ w.frozen? ⟨b, 1, none⟩ = false ∧ w.frozen? ⟨b, 2, none⟩ = false ∧ w.frozen? ⟨b, 3, none⟩ = false ∧ w.frozen? ⟨b, 4, none⟩ = false ∧ w.frozen? ⟨b, 5, none⟩ = false ∧ w.frozen? ⟨b, 6, none⟩ = false ∧ w.frozen? ⟨b, 7, none⟩ = false ∧ w.frozen? ⟨b, 8, none⟩ = false ∧ w.frozen? ⟨b, 9, none⟩ = false :=
 ⟨(iH h 0).trans rfl, (iH h 1).trans rfl, (iH h 2).trans rfl, (iH h 3).trans rfl, (iH h 4).trans rfl, (iH h 5).trans rfl, (iH h 6).trans rfl, (iH h 7).trans rfl, (iH h 8).trans rfl, (iH h 9).trans rfl,
  iG h 0, iG h 1, iG h 2, iG h 3, iG h 4, iG h 5, iG h 6, iG h 7, iG h 8, iG h 9⟩
theorem oI (a0 a1 a2 : Int) (A3 : Option Addr) (c3 : Nat) (l3 : List Int) (A4 : Option Addr) (c4 : Nat) (l4 : List jR) (a5 : Int) (A6 : Option Addr) (c6 : Nat) (l6 : List kD) (a7 a8 : Int) (A9 : Option Addr) (c9 : Nat) (l9 : List jL) (w : World)
  (h3 : Kd.C (Kd.int .i64) w A3 l3.length l3) (d3 : l3.length ≤ c3) (h4 : Kd.C k149 w A4 l4.length l4) (d4 : l4.length ≤ c4) (h6 : Kd.C k122 w A6 l6.length l6) (d6 : l6.length ≤ c6) (h9 : Kd.C k114 w A9 l9.length l9) (d9 : l9.length ≤ c9) :
  Calls Tryz.prog 95 #[.agg #[.int .u8 a0, .int .u32 a1, .int .u32 a2, .slice A3 l3.length c3, .slice A4 l4.length c4, .int .u32 a5, .slice A6 l6.length c6, .int .i64 a7, .int .i64 a8, .slice A9 l9.length c9]] w fun e w' => e = .returned (.bool (mF a0 a1 a2 l3 l4 a5 l6 a7 a8 l9)) ∧ Below w.heap.size w w' :=
 code_plain.calls a0 a1 a2 A3 c3 l3 A4 c4 l4 a5 A6 c6 l6 a7 a8 A9 c9 l9 _ w h3 d3 h4 d4 h6 d6 h9 d9 (YB _ _ _ _ _ _ _ _ _ _)
def code_Sound.f (a0_0 : Int) (a0_1 : Int) (a0_2 : Int) (l0_3 : List Int) (l0_4 : List jR) (a0_5 : Int) (l0_6 : List kD) (a0_7 : Int) (a0_8 : Int) (l0_9 : List jL) : Option Bool :=
 some (jQ ⟨a0_0, a0_1, a0_2, l0_3, l0_4, ⟨a0_5, l0_6⟩, a0_7, a0_8, l0_9⟩)
theorem WZ (a1 a2 : Int) (l3 : List Int) (l4 : List jR) (a5 : Int) (l6 : List kD) (a7 a8 : Int) (l9 : List jL) : jQ ⟨1, a1, a2, l3, l4, ⟨a5, l6⟩, a7, a8, l9⟩ = (mP (-1) l3 && mD l4 && mF 0 0 a2 [] [] a5 l6 a7 a8 l9) := by
 simp [jQ, mF, Bool.and_assoc]
theorem XA (a1 a2 : Int) (l3 : List Int) (l4 : List jR) (a5 : Int) (l6 : List kD) (a7 a8 : Int) (l9 : List jL) : jQ ⟨2, a1, a2, l3, l4, ⟨a5, l6⟩, a7, a8, l9⟩ = (mP (-1) l3 && mF 0 0 0 [] l4 a5 l6 a7 a8 l9) := by
 simp [jQ, mF, Bool.and_assoc]
theorem JL (a0 a1 a2 : Int) (l3 : List Int) (l4 : List jR) (a5 : Int) (l6 : List kD) (a7 a8 : Int) (l9 : List jL) (h : a0 = 3 ∨ a0 = 4 ∨ a0 = 5) : jQ ⟨a0, a1, a2, l3, l4, ⟨a5, l6⟩, a7, a8, l9⟩ = mF 0 0 a2 l3 l4 a5 l6 a7 a8 l9 := by
 rcases h with rfl | rfl | rfl <;> simp [jQ, mF, Bool.and_assoc]
theorem VU (a1 a2 : Int) (l3 : List Int) (l4 : List jR) (a5 : Int) (l6 : List kD) (a7 a8 : Int) (l9 : List jL) : jQ ⟨6, a1, a2, l3, l4, ⟨a5, l6⟩, a7, a8, l9⟩ = (decide (a1 = 0) && decide ((l6.length : Int) ≤ 40) && !(l6.any fun s => !mM s) && mF 0 0 a2 l3 l4 0 [] a7 a8 l9) := by
 have e1 : l6.all mM = !(l6.any fun s => !mM s) := by rw [List.any_eq_not_all_not, Bool.not_not]; congr 1; funext v; simp
 have e2 : decide (l6.length ≤ 40) = decide ((l6.length : Int) ≤ 40) := by rw [decide_eq_decide]; omega
 have e3 : (a1 == 0) = decide (a1 = 0) := by rw [Bool.eq_iff_iff]; simp
 rw [← e1, ← e2, ← e3]
 simp [jQ, mF, Bool.and_assoc]
theorem Y2 (a1 a2 : Int) (l3 : List Int) (l4 : List jR) (a5 : Int) (l6 : List kD) (a7 a8 : Int) (l9 : List jL) : jQ ⟨7, a1, a2, l3, l4, ⟨a5, l6⟩, a7, a8, l9⟩ = ((nO l9 && decide ((l9.length : Int) ≤ 5000)) && decide (0 ≤ a7) && decide (a7 ≤ 10000) && decide (0 ≤ a8) && decide (a8 ≤ 10000) && mF 0 0 a2 l3 l4 a5 l6 0 0 []) := by
 have e2 : decide (l9.length ≤ 5000) = decide ((l9.length : Int) ≤ 5000) := by rw [decide_eq_decide]; omega
 rw [← e2]
 simp [jQ, mF, Bool.and_assoc]
theorem XI (a0 a1 a2 : Int) (l3 : List Int) (l4 : List jR) (a5 : Int) (l6 : List kD) (a7 a8 : Int) (l9 : List jL) (h : a0 < 1 ∨ 7 < a0) : jQ ⟨a0, a1, a2, l3, l4, ⟨a5, l6⟩, a7, a8, l9⟩ = false := by
 unfold jQ
 simp only
 rw [if_neg (by omega), if_neg (by omega), if_neg (by simp; omega), if_neg (by omega), if_neg (by omega)]
section
variable (a0 a1 a2 : Int) (A3 : Option Addr) (c3 : Nat) (l3 : List Int) (A4 : Option Addr) (c4 : Nat) (l4 : List jR) (a5 : Int) (A6 : Option Addr) (c6 : Nat) (l6 : List kD) (a7 a8 : Int) (A9 : Option Addr) (c9 : Nat) (l9 : List jL) (w : World)
 (h3 : Kd.C (Kd.int .i64) w A3 l3.length l3) (d3 : l3.length ≤ c3) (h4 : Kd.C k149 w A4 l4.length l4) (d4 : l4.length ≤ c4) (h6 : Kd.C k122 w A6 l6.length l6) (d6 : l6.length ≤ c6) (h9 : Kd.C k114 w A9 l9.length l9) (d9 : l9.length ≤ c9)
include h3 d3 h4 d4 h6 d6 h9 d9
set_option maxHeartbeats 4000000 in
set_option maxRecDepth 20000 in
theorem U4 : Calls Tryz.prog 60 #[.agg #[.int .u8 1, .int .u32 a1, .int .u32 a2, .slice A3 l3.length c3, .slice A4 l4.length c4, .int .u32 a5, .slice A6 l6.length c6, .int .i64 a7, .int .i64 a8, .slice A9 l9.length c9]] w fun e w' => e = .returned (.bool (jQ ⟨1, a1, a2, l3, l4, ⟨a5, l6⟩, a7, a8, l9⟩)) ∧ Below w.heap.size w w' := by
 have H3 := iC.mk h3; have H4 := iC.mk h4; have H6 := iC.mk h6; have H9 := iC.mk h9
 clear h3 h4 h6 h9
 rw [WZ]
 cases hr : mP (-1) l3 with
 | false =>
  have HQ := iC.mk hr
  clear hr
  rw [Bool.false_and, Bool.false_and]
  go_enter Tryz.func60, Tryz.ntmps60
  go_wp2_with (go_at_call 89; refine (rV _ _ l3 _ (Kd.C_below H3.out bel_) d3).mono ?_; rintro e w1 ⟨rfl, hb1⟩; rw [HQ.out]; have hbk := ten (iJ hb1 (iO rfl)); obtain ⟨z0, z1, z2, z3, z4, z5, z6, z7, z8, z9, y0, y1, y2, y3, y4, y5, y6, y7, y8, y9⟩ := hbk)
  go_ret
  exact ⟨rfl, bel_⟩
 | true =>
  have HQ := iC.mk hr
  clear hr
  rw [Bool.true_and]
  cases hb : mD l4 with
  | false =>
   have HQ2 := iC.mk hb
   clear hb
   rw [Bool.false_and]
   go_enter Tryz.func60, Tryz.ntmps60
   go_wp2_with (first | (go_at_call 89; refine (rV _ _ l3 _ (Kd.C_below H3.out bel_) d3).mono ?_; rintro e w1 ⟨rfl, hb1⟩; rw [HQ.out]; have hbk := ten (iJ hb1 (iO rfl)); obtain ⟨z0, z1, z2, z3, z4, z5, z6, z7, z8, z9, y0, y1, y2, y3, y4, y5, y6, y7, y8, y9⟩ := hbk) | (go_at_call 90; refine (code_batch.calls _ _ l4 _ _ (Kd.C_below H4.out bel_) d4 rfl).mono ?_; rintro e w2 ⟨rfl, hb2⟩; rw [HQ2.out]; have hbk1 := iJ hb2 (iJ hb1 (iO rfl)); clear z0 z1 z2 z3 z4 z5 z6 z7 z8 z9 y0 y1 y2 y3 y4 y5 y6 y7 y8 y9; obtain ⟨z0, z1, z2, z3, z4, z5, z6, z7, z8, z9, y0, y1, y2, y3, y4, y5, y6, y7, y8, y9⟩ := ten hbk1; clear hbk1))
   go_ret
   exact ⟨rfl, bel_⟩
  | true =>
   have HQ2 := iC.mk hb
   clear hb
   rw [Bool.true_and]
   generalize hp : mF 0 0 a2 [] [] a5 l6 a7 a8 l9 = P
   have HP := iC.mk hp
   clear hp
   go_enter Tryz.func60, Tryz.ntmps60
   go_wp2_with (first | (go_at_call 89; refine (rV _ _ l3 _ (Kd.C_below H3.out bel_) d3).mono ?_; rintro e w1 ⟨rfl, hb1⟩; rw [HQ.out]; have hbk := ten (iJ hb1 (iO rfl)); obtain ⟨z0, z1, z2, z3, z4, z5, z6, z7, z8, z9, y0, y1, y2, y3, y4, y5, y6, y7, y8, y9⟩ := hbk) | (go_at_call 90; refine (code_batch.calls _ _ l4 _ _ (Kd.C_below H4.out bel_) d4 rfl).mono ?_; rintro e w2 ⟨rfl, hb2⟩; rw [HQ2.out]; have hbk1 := iJ hb2 (iJ hb1 (iO rfl)); clear z0 z1 z2 z3 z4 z5 z6 z7 z8 z9 y0 y1 y2 y3 y4 y5 y6 y7 y8 y9; obtain ⟨z0, z1, z2, z3, z4, z5, z6, z7, z8, z9, y0, y1, y2, y3, y4, y5, y6, y7, y8, y9⟩ := ten hbk1; clear hbk1) | (go_at_call 95; refine (oI 0 0 a2 none 0 ([] : List Int) none 0 ([] : List jR) a5 A6 c6 l6 a7 a8 A9 c9 l9 _ (Kd.C_nil _ _) (Nat.le_refl _) (Kd.C_nil _ _) (Nat.le_refl _) (Kd.C_below H6.out bel_) d6 (Kd.C_below H9.out bel_) d9).mono ?_; rintro e w9 ⟨rfl, hb9⟩))
   go_ret
   exact ⟨by rw [← HP.out]; rfl, bel_⟩
set_option maxHeartbeats 4000000 in
set_option maxRecDepth 20000 in
theorem UJ : Calls Tryz.prog 60 #[.agg #[.int .u8 2, .int .u32 a1, .int .u32 a2, .slice A3 l3.length c3, .slice A4 l4.length c4, .int .u32 a5, .slice A6 l6.length c6, .int .i64 a7, .int .i64 a8, .slice A9 l9.length c9]] w fun e w' => e = .returned (.bool (jQ ⟨2, a1, a2, l3, l4, ⟨a5, l6⟩, a7, a8, l9⟩)) ∧ Below w.heap.size w w' := by
 have H3 := iC.mk h3; have H4 := iC.mk h4; have H6 := iC.mk h6; have H9 := iC.mk h9
 clear h3 h4 h6 h9
 rw [XA]
 cases hr : mP (-1) l3 with
 | false =>
  have HQ := iC.mk hr
  clear hr
  rw [Bool.false_and]
  go_enter Tryz.func60, Tryz.ntmps60
  go_wp2_with (go_at_call 89; refine (rV _ _ l3 _ (Kd.C_below H3.out bel_) d3).mono ?_; rintro e w1 ⟨rfl, hb1⟩; rw [HQ.out]; have hbk := ten (iJ hb1 (iO rfl)); obtain ⟨z0, z1, z2, z3, z4, z5, z6, z7, z8, z9, y0, y1, y2, y3, y4, y5, y6, y7, y8, y9⟩ := hbk)
  go_ret
  exact ⟨rfl, bel_⟩
 | true =>
  have HQ := iC.mk hr
  clear hr
  rw [Bool.true_and]
  generalize hp : mF 0 0 0 [] l4 a5 l6 a7 a8 l9 = P
  have HP := iC.mk hp
  clear hp
  go_enter Tryz.func60, Tryz.ntmps60
  go_wp2_with (first | (go_at_call 89; refine (rV _ _ l3 _ (Kd.C_below H3.out bel_) d3).mono ?_; rintro e w1 ⟨rfl, hb1⟩; rw [HQ.out]; have hbk := ten (iJ hb1 (iO rfl)); obtain ⟨z0, z1, z2, z3, z4, z5, z6, z7, z8, z9, y0, y1, y2, y3, y4, y5, y6, y7, y8, y9⟩ := hbk) | (go_at_call 95; refine (oI 0 0 0 none 0 ([] : List Int) A4 c4 l4 a5 A6 c6 l6 a7 a8 A9 c9 l9 _ (Kd.C_nil _ _) (Nat.le_refl _) (Kd.C_below H4.out bel_) d4 (Kd.C_below H6.out bel_) d6 (Kd.C_below H9.out bel_) d9).mono ?_; rintro e w9 ⟨rfl, hb9⟩))
  go_ret
  exact ⟨by rw [← HP.out]; rfl, bel_⟩
set_option maxHeartbeats 4000000 in
set_option maxRecDepth 20000 in
theorem LW (ha : a0 = 3 ∨ a0 = 4 ∨ a0 = 5) : Calls Tryz.prog 60 #[.agg #[.int .u8 a0, .int .u32 a1, .int .u32 a2, .slice A3 l3.length c3, .slice A4 l4.length c4, .int .u32 a5, .slice A6 l6.length c6, .int .i64 a7, .int .i64 a8, .slice A9 l9.length c9]] w fun e w' => e = .returned (.bool (jQ ⟨a0, a1, a2, l3, l4, ⟨a5, l6⟩, a7, a8, l9⟩)) ∧ Below w.heap.size w w' := by
 have H3 := iC.mk h3; have H4 := iC.mk h4; have H6 := iC.mk h6; have H9 := iC.mk h9
 clear h3 h4 h6 h9
 rcases ha with rfl | rfl | rfl
 ·
  rw [JL _ _ _ _ _ _ _ _ _ _ (by omega)]
  generalize hp : mF 0 0 a2 l3 l4 a5 l6 a7 a8 l9 = P
  have HP := iC.mk hp
  clear hp
  go_enter Tryz.func60, Tryz.ntmps60
  go_wp2_with (go_at_call 95; refine (oI 0 0 a2 A3 c3 l3 A4 c4 l4 a5 A6 c6 l6 a7 a8 A9 c9 l9 _ (Kd.C_below H3.out bel_) d3 (Kd.C_below H4.out bel_) d4 (Kd.C_below H6.out bel_) d6 (Kd.C_below H9.out bel_) d9).mono ?_; rintro e w9 ⟨rfl, hb9⟩)
  go_ret
  exact ⟨by rw [← HP.out]; rfl, bel_⟩
 ·
  rw [JL _ _ _ _ _ _ _ _ _ _ (by omega)]
  generalize hp : mF 0 0 a2 l3 l4 a5 l6 a7 a8 l9 = P
  have HP := iC.mk hp
  clear hp
  go_enter Tryz.func60, Tryz.ntmps60
  go_wp2_with (go_at_call 95; refine (oI 0 0 a2 A3 c3 l3 A4 c4 l4 a5 A6 c6 l6 a7 a8 A9 c9 l9 _ (Kd.C_below H3.out bel_) d3 (Kd.C_below H4.out bel_) d4 (Kd.C_below H6.out bel_) d6 (Kd.C_below H9.out bel_) d9).mono ?_; rintro e w9 ⟨rfl, hb9⟩)
  go_ret
  exact ⟨by rw [← HP.out]; rfl, bel_⟩
 ·
  rw [JL _ _ _ _ _ _ _ _ _ _ (by omega)]
  generalize hp : mF 0 0 a2 l3 l4 a5 l6 a7 a8 l9 = P
  have HP := iC.mk hp
  clear hp
  go_enter Tryz.func60, Tryz.ntmps60
  go_wp2_with (go_at_call 95; refine (oI 0 0 a2 A3 c3 l3 A4 c4 l4 a5 A6 c6 l6 a7 a8 A9 c9 l9 _ (Kd.C_below H3.out bel_) d3 (Kd.C_below H4.out bel_) d4 (Kd.C_below H6.out bel_) d6 (Kd.C_below H9.out bel_) d9).mono ?_; rintro e w9 ⟨rfl, hb9⟩)
  go_ret
  exact ⟨by rw [← HP.out]; rfl, bel_⟩
set_option maxHeartbeats 4000000 in
set_option maxRecDepth 20000 in
theorem TJ : Calls Tryz.prog 60 #[.agg #[.int .u8 6, .int .u32 a1, .int .u32 a2, .slice A3 l3.length c3, .slice A4 l4.length c4, .int .u32 a5, .slice A6 l6.length c6, .int .i64 a7, .int .i64 a8, .slice A9 l9.length c9]] w fun e w' => e = .returned (.bool (jQ ⟨6, a1, a2, l3, l4, ⟨a5, l6⟩, a7, a8, l9⟩)) ∧ Below w.heap.size w w' := by
 have _ := d6
 have H3 := iC.mk h3; have H4 := iC.mk h4; have H6 := iC.mk h6; have H9 := iC.mk h9
 clear h3 h4 h6 h9
 rw [VU]
 by_cases q1 : a1 = 0
 ·subst q1
  by_cases q2 : (l6.length : Int) ≤ 40
  ·rw [decide_eq_true (rfl : (0 : Int) = 0), decide_eq_true q2]
   cases hr : (l6.any fun s => !mM s) with
   | true =>
    have HQ := iC.mk hr
    clear hr
    go_enter Tryz.func60, Tryz.ntmps60
    go_wp2_with (first | (go_at_call 91; refine (zI _ _ l6 _ (Kd.C_below H6.out bel_)).mono ?_; rintro e w1 ⟨rfl, hb1⟩; rw [HQ.out]; have hbk := ten (iJ hb1 (iO rfl)); obtain ⟨z0, z1, z2, z3, z4, z5, z6, z7, z8, z9, y0, y1, y2, y3, y4, y5, y6, y7, y8, y9⟩ := hbk) | (go_at_call 95; refine (oI 0 0 a2 A3 c3 l3 A4 c4 l4 0 none 0 ([] : List kD) a7 a8 A9 c9 l9 _ (Kd.C_below H3.out bel_) d3 (Kd.C_below H4.out bel_) d4 (Kd.C_nil _ _) (Nat.le_refl _) (Kd.C_below H9.out bel_) d9).mono ?_; rintro e w9 ⟨rfl, hb9⟩))
    go_ret
    exact ⟨rfl, bel_⟩
   | false =>
    have HQ := iC.mk hr
    clear hr
    rw [show (true && true && !false && mF 0 0 a2 l3 l4 0 [] a7 a8 l9) = mF 0 0 a2 l3 l4 0 [] a7 a8 l9 by simp]
    generalize hp : mF 0 0 a2 l3 l4 0 [] a7 a8 l9 = P
    have HP := iC.mk hp
    clear hp
    go_enter Tryz.func60, Tryz.ntmps60
    go_wp2_with (first | (go_at_call 91; refine (zI _ _ l6 _ (Kd.C_below H6.out bel_)).mono ?_; rintro e w1 ⟨rfl, hb1⟩; rw [HQ.out]; have hbk := ten (iJ hb1 (iO rfl)); obtain ⟨z0, z1, z2, z3, z4, z5, z6, z7, z8, z9, y0, y1, y2, y3, y4, y5, y6, y7, y8, y9⟩ := hbk) | (go_at_call 95; refine (oI 0 0 a2 A3 c3 l3 A4 c4 l4 0 none 0 ([] : List kD) a7 a8 A9 c9 l9 _ (Kd.C_below H3.out bel_) d3 (Kd.C_below H4.out bel_) d4 (Kd.C_nil _ _) (Nat.le_refl _) (Kd.C_below H9.out bel_) d9).mono ?_; rintro e w9 ⟨rfl, hb9⟩))
    go_ret
    exact ⟨by rw [← HP.out]; rfl, bel_⟩
  ·rw [decide_eq_true (rfl : (0 : Int) = 0), decide_eq_false q2]
   go_enter Tryz.func60, Tryz.ntmps60
   go_wp2_with fail
   go_ret
   exact ⟨rfl, bel_⟩
 ·rw [decide_eq_false q1, Bool.false_and, Bool.false_and, Bool.false_and]
  have q1' : (a1 == 0) = false := beq_eq_false_iff_ne.mpr q1
  go_enter Tryz.func60, Tryz.ntmps60
  go_wp2_with fail
  go_ret
  exact ⟨rfl, bel_⟩
set_option maxHeartbeats 4000000 in
set_option maxRecDepth 20000 in
theorem TG : Calls Tryz.prog 60 #[.agg #[.int .u8 7, .int .u32 a1, .int .u32 a2, .slice A3 l3.length c3, .slice A4 l4.length c4, .int .u32 a5, .slice A6 l6.length c6, .int .i64 a7, .int .i64 a8, .slice A9 l9.length c9]] w fun e w' => e = .returned (.bool (jQ ⟨7, a1, a2, l3, l4, ⟨a5, l6⟩, a7, a8, l9⟩)) ∧ Below w.heap.size w w' := by
 have H3 := iC.mk h3; have H4 := iC.mk h4; have H6 := iC.mk h6; have H9 := iC.mk h9
 clear h3 h4 h6 h9
 rw [Y2]
 cases hr : (nO l9 && decide ((l9.length : Int) ≤ 5000)) with
 | false =>
  have HQ := iC.mk hr
  clear hr
  rw [Bool.false_and, Bool.false_and, Bool.false_and, Bool.false_and, Bool.false_and]
  go_enter Tryz.func60, Tryz.ntmps60
  go_wp2_with (go_at_call 94; refine (oD _ _ l9 _ (Kd.C_below H9.out bel_) d9).mono ?_; rintro e w1 ⟨rfl, hb1⟩; rw [HQ.out]; have hbk := ten (iJ hb1 (iO rfl)); obtain ⟨z0, z1, z2, z3, z4, z5, z6, z7, z8, z9, y0, y1, y2, y3, y4, y5, y6, y7, y8, y9⟩ := hbk)
  go_ret
  exact ⟨rfl, bel_⟩
 | true =>
  have HQ := iC.mk hr
  clear hr
  by_cases q1 : 0 ≤ a7
  ·by_cases q2 : a7 ≤ 10000
   ·by_cases q3 : 0 ≤ a8
    ·by_cases q4 : a8 ≤ 10000
     ·rw [decide_eq_true q1, decide_eq_true q2, decide_eq_true q3, decide_eq_true q4]
      rw [show (true && true && true && true && true && mF 0 0 a2 l3 l4 a5 l6 0 0 []) = mF 0 0 a2 l3 l4 a5 l6 0 0 [] by simp]
      generalize hp : mF 0 0 a2 l3 l4 a5 l6 0 0 [] = P
      have HP := iC.mk hp
      clear hp
      go_enter Tryz.func60, Tryz.ntmps60
      go_wp2_with (first | (go_at_call 94; refine (oD _ _ l9 _ (Kd.C_below H9.out bel_) d9).mono ?_; rintro e w1 ⟨rfl, hb1⟩; rw [HQ.out]; have hbk := ten (iJ hb1 (iO rfl)); obtain ⟨z0, z1, z2, z3, z4, z5, z6, z7, z8, z9, y0, y1, y2, y3, y4, y5, y6, y7, y8, y9⟩ := hbk) | (go_at_call 95; refine (oI 0 0 a2 A3 c3 l3 A4 c4 l4 a5 A6 c6 l6 0 0 none 0 ([] : List jL) _ (Kd.C_below H3.out bel_) d3 (Kd.C_below H4.out bel_) d4 (Kd.C_below H6.out bel_) d6 (Kd.C_nil _ _) (Nat.le_refl _)).mono ?_; rintro e w9 ⟨rfl, hb9⟩))
      go_ret
      exact ⟨by rw [← HP.out]; rfl, bel_⟩
     ·rw [decide_eq_false q4, Bool.and_false, Bool.false_and]
      go_enter Tryz.func60, Tryz.ntmps60
      go_wp2_with (go_at_call 94; refine (oD _ _ l9 _ (Kd.C_below H9.out bel_) d9).mono ?_; rintro e w1 ⟨rfl, hb1⟩; rw [HQ.out]; have hbk := ten (iJ hb1 (iO rfl)); obtain ⟨z0, z1, z2, z3, z4, z5, z6, z7, z8, z9, y0, y1, y2, y3, y4, y5, y6, y7, y8, y9⟩ := hbk)
      go_ret
      exact ⟨rfl, bel_⟩
    ·rw [decide_eq_false q3, Bool.and_false, Bool.false_and, Bool.false_and]
     go_enter Tryz.func60, Tryz.ntmps60
     go_wp2_with (go_at_call 94; refine (oD _ _ l9 _ (Kd.C_below H9.out bel_) d9).mono ?_; rintro e w1 ⟨rfl, hb1⟩; rw [HQ.out]; have hbk := ten (iJ hb1 (iO rfl)); obtain ⟨z0, z1, z2, z3, z4, z5, z6, z7, z8, z9, y0, y1, y2, y3, y4, y5, y6, y7, y8, y9⟩ := hbk)
     go_ret
     exact ⟨rfl, bel_⟩
   ·rw [decide_eq_false q2, Bool.and_false, Bool.false_and, Bool.false_and, Bool.false_and]
    go_enter Tryz.func60, Tryz.ntmps60
    go_wp2_with (go_at_call 94; refine (oD _ _ l9 _ (Kd.C_below H9.out bel_) d9).mono ?_; rintro e w1 ⟨rfl, hb1⟩; rw [HQ.out]; have hbk := ten (iJ hb1 (iO rfl)); obtain ⟨z0, z1, z2, z3, z4, z5, z6, z7, z8, z9, y0, y1, y2, y3, y4, y5, y6, y7, y8, y9⟩ := hbk)
    go_ret
    exact ⟨rfl, bel_⟩
  ·rw [decide_eq_false q1, Bool.and_false, Bool.false_and, Bool.false_and, Bool.false_and, Bool.false_and]
   go_enter Tryz.func60, Tryz.ntmps60
   go_wp2_with (go_at_call 94; refine (oD _ _ l9 _ (Kd.C_below H9.out bel_) d9).mono ?_; rintro e w1 ⟨rfl, hb1⟩; rw [HQ.out]; have hbk := ten (iJ hb1 (iO rfl)); obtain ⟨z0, z1, z2, z3, z4, z5, z6, z7, z8, z9, y0, y1, y2, y3, y4, y5, y6, y7, y8, y9⟩ := hbk)
   go_ret
   exact ⟨rfl, bel_⟩
set_option maxHeartbeats 4000000 in
set_option maxRecDepth 20000 in
theorem U1 (ha : a0 < 1 ∨ 7 < a0) : Calls Tryz.prog 60 #[.agg #[.int .u8 a0, .int .u32 a1, .int .u32 a2, .slice A3 l3.length c3, .slice A4 l4.length c4, .int .u32 a5, .slice A6 l6.length c6, .int .i64 a7, .int .i64 a8, .slice A9 l9.length c9]] w fun e w' => e = .returned (.bool (jQ ⟨a0, a1, a2, l3, l4, ⟨a5, l6⟩, a7, a8, l9⟩)) ∧ Below w.heap.size w w' := by
 have _ := d3; have _ := d4; have _ := d6; have _ := d9
 have H3 := iC.mk h3; have H4 := iC.mk h4; have H6 := iC.mk h6; have H9 := iC.mk h9
 clear h3 h4 h6 h9
 rw [XI _ _ _ _ _ _ _ _ _ _ ha]
 have q1 : (a0 == 1) = false := beq_eq_false_iff_ne.mpr (by omega)
 have q2 : (a0 == 2) = false := beq_eq_false_iff_ne.mpr (by omega)
 have q3 : (a0 == 3) = false := beq_eq_false_iff_ne.mpr (by omega)
 have q4 : (a0 == 4) = false := beq_eq_false_iff_ne.mpr (by omega)
 have q5 : (a0 == 5) = false := beq_eq_false_iff_ne.mpr (by omega)
 have q6 : (a0 == 6) = false := beq_eq_false_iff_ne.mpr (by omega)
 have q7 : (a0 == 7) = false := beq_eq_false_iff_ne.mpr (by omega)
 clear ha
 go_enter Tryz.func60, Tryz.ntmps60
 go_wp2
 go_ret
 exact ⟨rfl, bel_⟩
end
theorem code_Sound.calls (a0_0 : Int) (a0_1 : Int) (a0_2 : Int) (A0_3 : Option Addr) (c0_3 : Nat) (l0_3 : List Int) (A0_4 : Option Addr) (c0_4 : Nat) (l0_4 : List jR) (a0_5 : Int) (A0_6 : Option Addr) (c0_6 : Nat) (l0_6 : List kD) (a0_7 : Int) (a0_8 : Int) (A0_9 : Option Addr) (c0_9 : Nat) (l0_9 : List jL) (r : Bool) (w : World) (hr0_3 : Kd.C (Kd.int .i64) w A0_3 l0_3.length l0_3) (hc0_3 : l0_3.length ≤ c0_3) (hr0_4 : Kd.C k149 w A0_4 l0_4.length l0_4) (hc0_4 : l0_4.length ≤ c0_4) (hr0_6 : Kd.C k122 w A0_6 l0_6.length l0_6) (hc0_6 : l0_6.length ≤ c0_6) (hr0_9 : Kd.C k114 w A0_9 l0_9.length l0_9) (hc0_9 : l0_9.length ≤ c0_9) (h : code_Sound.f a0_0 a0_1 a0_2 l0_3 l0_4 a0_5 l0_6 a0_7 a0_8 l0_9 = some r) :
  Calls Tryz.prog 60 #[.agg #[.int .u8 a0_0, .int .u32 a0_1, .int .u32 a0_2, .slice A0_3 l0_3.length c0_3, .slice A0_4 l0_4.length c0_4, .int .u32 a0_5, .slice A0_6 l0_6.length c0_6, .int .i64 a0_7, .int .i64 a0_8, .slice A0_9 l0_9.length c0_9]] w fun e w' => e = .returned (.bool r) ∧ Below w.heap.size w w' := by
 obtain rfl := Option.some.inj h
 clear h
 by_cases h0 : a0_0 < 1 ∨ 7 < a0_0
 ·exact U1 a0_0 a0_1 a0_2 A0_3 c0_3 l0_3 A0_4 c0_4 l0_4 a0_5 A0_6 c0_6 l0_6 a0_7 a0_8 A0_9 c0_9 l0_9 w hr0_3 hc0_3 hr0_4 hc0_4 hr0_6 hc0_6 hr0_9 hc0_9 h0
 have h7 : a0_0 = 1 ∨ a0_0 = 2 ∨ (a0_0 = 3 ∨ a0_0 = 4 ∨ a0_0 = 5) ∨ a0_0 = 6 ∨ a0_0 = 7 := by omega
 rcases h7 with rfl | rfl | h3 | rfl | rfl
 ·exact U4 a0_1 a0_2 A0_3 c0_3 l0_3 A0_4 c0_4 l0_4 a0_5 A0_6 c0_6 l0_6 a0_7 a0_8 A0_9 c0_9 l0_9 w hr0_3 hc0_3 hr0_4 hc0_4 hr0_6 hc0_6 hr0_9 hc0_9
 ·exact UJ a0_1 a0_2 A0_3 c0_3 l0_3 A0_4 c0_4 l0_4 a0_5 A0_6 c0_6 l0_6 a0_7 a0_8 A0_9 c0_9 l0_9 w hr0_3 hc0_3 hr0_4 hc0_4 hr0_6 hc0_6 hr0_9 hc0_9
 ·exact LW a0_0 a0_1 a0_2 A0_3 c0_3 l0_3 A0_4 c0_4 l0_4 a0_5 A0_6 c0_6 l0_6 a0_7 a0_8 A0_9 c0_9 l0_9 w hr0_3 hc0_3 hr0_4 hc0_4 hr0_6 hc0_6 hr0_9 hc0_9 h3
 ·exact TJ a0_1 a0_2 A0_3 c0_3 l0_3 A0_4 c0_4 l0_4 a0_5 A0_6 c0_6 l0_6 a0_7 a0_8 A0_9 c0_9 l0_9 w hr0_3 hc0_3 hr0_4 hc0_4 hr0_6 hc0_6 hr0_9 hc0_9
 ·exact TG a0_1 a0_2 A0_3 c0_3 l0_3 A0_4 c0_4 l0_4 a0_5 A0_6 c0_6 l0_6 a0_7 a0_8 A0_9 c0_9 l0_9 w hr0_3 hc0_3 hr0_4 hc0_4 hr0_6 hc0_6 hr0_9 hc0_9
end Go.Proofs.YtgfkgppomaapiaaGreatDoor.K
end
