/- Parts of the proof, one behind the other: J1, RoA, RoB, RoC, RoD, RoE, CoK, RoF, RoG. -/
import Derived.Test.YtjppookmjdaplaaQCoordOnce2
set_option linter.unusedVariables false
set_option linter.unusedSimpArgs false
section
namespace Go.Proofs.Ytjppookmjdaplaa.J
open Go.RowKit Go.Proofs.YtjppookmjdaplaaW.PrintWords Go.Proofs.YtjppookmjdaplaaW.PrintLast Go.Proofs.YtjppookmjdaplaaW.PrintMore
attribute [local go_sem] jV kJ
def stratumref15_has.l0 : Nat → List Int → Int → Int → Option (Bool)
  | 0, _, _, _ => none
  | k + 1, x0, x1, x5 => if x5 < (x0.length : Int) then (if 0 ≤ x5 then (if (rd x0 x5) = x1 then (some true) else (stratumref15_has.l0 k x0 x1 (wrap64 (x5 + 1)))) else (none)) else (some false)
def stratumref15_has.f (k : Nat) (l0 : List Int) (a1 : Int) : Option (Bool) := stratumref15_has.l0 k l0 a1 0
set_option maxHeartbeats 8000000 in
set_option maxRecDepth 100000 in
theorem stratumref15_has.calls (k : Nat) (A0 : Option Addr) (c0 : Nat) (l0 : List Int) (a1 : Int) (r : Bool) (w : World) (hr0 : Kd.C (Kd.int .i64) w A0 l0.length l0) (hc0 : l0.length ≤ c0) (h : stratumref15_has.f k l0 a1 = some r) :
    Calls Try.prog 96 #[.slice A0 l0.length c0, .int .i64 a1] w fun e w' => e = .returned (.bool r) ∧ jO w w' := by
  have HR0 := iC.mk hr0
  have HC0 := iC.mk hc0
  clear hr0 hc0
  have H : (stratumref15_has.l0 k l0 a1 0) = some r := h
  clear h
  have H' := iC.mk H
  clear H
  go_enter Try.func96, Try.ntmps96
  go_wp2
  go_loopg [5] k (fun kq v5 w' => ∃ (x5_1 : Int), v5 = .int .i64 x5_1 ∧ iC (stratumref15_has.l0 kq l0 a1 x5_1 = some r) ∧ iC (kq ≤ k) ∧ jO w w')
  case atStart => exact ⟨(0), (by first | rfl | (simp; done) | (simp [*]; done)), H', ⟨Nat.le_refl _⟩, by repeat (first | exact jO.refl _ | apply jO.step)⟩
  case round =>
    clear H'
    try clear p2
    obtain ⟨x5_1, rfl, HA, HK1, ⟨m1, rfl⟩⟩ := hrel
    cases gk with
    | zero => exact absurd HA.out (by simp [stratumref15_has.l0])
    | succ k1 =>
      have H := HA.out
      clear HA
      simp only [stratumref15_has.l0] at H
      by_cases c3 : x5_1 < (l0.length : Int)
      · rw [if_pos c3] at H
        have c3b0 : decide (x5_1 < (l0.length : Int)) = true := decide_eq_true c3
        clear c3
        by_cases c4 : 0 ≤ x5_1
        · rw [if_pos c4] at H
          have c4b0 : decide (0 ≤ x5_1) = true := decide_eq_true c4
          clear c4
          by_cases c5 : (rd l0 x5_1) = a1
          · rw [if_pos c5] at H
            have c5b0 : ((rd l0 x5_1) == a1) = true := beq_iff_eq.mpr c5
            have c5b1 : ((rd l0 x5_1) != a1) = false := bne_eq_false_iff_eq.mpr c5
            clear c5
            obtain rfl := Option.some.inj H
            have p101 : 0 ≤ (x5_1 : Int) := of_decide_eq_true asm_
            have q101 : x5_1 < (l0.length : Int) := of_decide_eq_true asm_
            obtain ⟨ad101, e101, hx101_0⟩ := Kd.at_int HR0.out x5_1 p101 q101
            cases e101
            replace p101 := eq_true p101
            replace q101 := eq_true q101
            go_wp2
            go_ret
            exact ⟨by first | rfl | (simp; done) | (simp [*]; done), by repeat (first | exact jO.refl _ | apply jO.step)⟩
          · rw [if_neg c5] at H
            have c5b0 : ((rd l0 x5_1) == a1) = false := beq_eq_false_iff_ne.mpr c5
            have c5b1 : ((rd l0 x5_1) != a1) = true := bne_iff_ne.mpr c5
            have H' := iC.mk H
            clear H
            have p101 : 0 ≤ (x5_1 : Int) := of_decide_eq_true asm_
            have q101 : x5_1 < (l0.length : Int) := of_decide_eq_true asm_
            obtain ⟨ad101, e101, hx101_0⟩ := Kd.at_int HR0.out x5_1 p101 q101
            cases e101
            replace p101 := eq_true p101
            replace q101 := eq_true q101
            go_wp2
            go_roundg k1
            case measure => have := HK1.out; omega
            case rel => exact ⟨(wrap64 (x5_1 + 1)), (by first | rfl | (simp; done) | (simp [*]; done)), H', ⟨by have := HK1.out; omega⟩, by repeat (first | exact jO.refl _ | apply jO.step)⟩
        · rw [if_neg c4] at H
          exact absurd H (by simp)
      · rw [if_neg c3] at H
        have c3b0 : decide (x5_1 < (l0.length : Int)) = false := decide_eq_false c3
        clear c3
        obtain rfl := Option.some.inj H
        go_wp2
        go_ret
        exact ⟨by first | rfl | (simp; done) | (simp [*]; done), by repeat (first | exact jO.refl _ | apply jO.step)⟩
def stratumref15_right.l0 : Nat → List Int → Int → Option (Bool)
  | 0, _, _ => none
  | k + 1, x0, x3 => if x3 < (x0.length : Int) then (if 0 ≤ x3 then (if (rd x0 x3) < 0 then (some false) else (if (rd x0 x3) > 5 then (some false) else (if x3 > 0 then (if 0 ≤ (wrap64 (x3 - 1)) then (if (wrap64 (x3 - 1)) < (x0.length : Int) then (if (rd x0 x3) ≤ (rd x0 (wrap64 (x3 - 1))) then (some false) else (stratumref15_right.l0 k x0 (wrap64 (x3 + 1)))) else (none)) else (none)) else (stratumref15_right.l0 k x0 (wrap64 (x3 + 1)))))) else (none)) else (some (decide ((x0.length : Int) > 0)))
def stratumref15_right.f (k : Nat) (l0 : List Int) : Option (Bool) := stratumref15_right.l0 k l0 0
set_option maxHeartbeats 8000000 in
set_option maxRecDepth 100000 in
theorem stratumref15_right.calls (k : Nat) (A0 : Option Addr) (c0 : Nat) (l0 : List Int) (r : Bool) (w : World) (hr0 : Kd.C (Kd.int .i64) w A0 l0.length l0) (hc0 : l0.length ≤ c0) (h : stratumref15_right.f k l0 = some r) :
    Calls Try.prog 77 #[.slice A0 l0.length c0] w fun e w' => e = .returned (.bool r) ∧ jO w w' := by
  have HR0 := iC.mk hr0
  have HC0 := iC.mk hc0
  clear hr0 hc0
  have H : (stratumref15_right.l0 k l0 0) = some r := h
  clear h
  have H' := iC.mk H
  clear H
  go_enter Try.func77, Try.ntmps77
  go_wp2
  repeat (go_quiet (fail); try go_wp2)
  go_loopg [3] k (fun kq v3 w' => ∃ (x3_1 : Int), v3 = .int .i64 x3_1 ∧ iC (stratumref15_right.l0 kq l0 x3_1 = some r) ∧ iC (kq ≤ k) ∧ jO w w')
  case atStart => exact ⟨(0), (by first | rfl | (simp; done) | (simp [*]; done)), H', ⟨Nat.le_refl _⟩, by repeat (first | exact jO.refl _ | apply jO.step)⟩
  case round =>
    clear H'
    obtain ⟨x3_1, rfl, HA, HK1, ⟨m1, rfl⟩⟩ := hrel
    cases gk with
    | zero => exact absurd HA.out (by simp [stratumref15_right.l0])
    | succ k1 =>
      have H := HA.out
      clear HA
      simp only [stratumref15_right.l0] at H
      by_cases c2 : x3_1 < (l0.length : Int)
      · rw [if_pos c2] at H
        have c2b0 : decide (x3_1 < (l0.length : Int)) = true := decide_eq_true c2
        clear c2
        by_cases c3 : 0 ≤ x3_1
        · rw [if_pos c3] at H
          have c3b0 : decide (0 ≤ x3_1) = true := decide_eq_true c3
          clear c3
          by_cases c4 : (rd l0 x3_1) < 0
          · rw [if_pos c4] at H
            have c4b0 : decide ((rd l0 x3_1) < 0) = true := decide_eq_true c4
            clear c4
            obtain rfl := Option.some.inj H
            have p102 : 0 ≤ (x3_1 : Int) := of_decide_eq_true asm_
            have q102 : x3_1 < (l0.length : Int) := of_decide_eq_true asm_
            obtain ⟨ad102, e102, hx102_0⟩ := Kd.at_int HR0.out x3_1 p102 q102
            cases e102
            replace p102 := eq_true p102
            replace q102 := eq_true q102
            go_wp2
            repeat (go_quiet (fail); try go_wp2)
            go_ret
            exact ⟨by first | rfl | (simp; done) | (simp [*]; done), by repeat (first | exact jO.refl _ | apply jO.step)⟩
          · rw [if_neg c4] at H
            have c4b0 : decide ((rd l0 x3_1) < 0) = false := decide_eq_false c4
            clear c4
            by_cases c5 : (rd l0 x3_1) > 5
            · rw [if_pos c5] at H
              have c5b0 : decide (5 < (rd l0 x3_1)) = true := decide_eq_true c5
              clear c5
              obtain rfl := Option.some.inj H
              have p102 : 0 ≤ (x3_1 : Int) := of_decide_eq_true asm_
              have q102 : x3_1 < (l0.length : Int) := of_decide_eq_true asm_
              obtain ⟨ad102, e102, hx102_0⟩ := Kd.at_int HR0.out x3_1 p102 q102
              cases e102
              replace p102 := eq_true p102
              replace q102 := eq_true q102
              have p103 : 0 ≤ (x3_1 : Int) := of_decide_eq_true asm_
              have q103 : x3_1 < (l0.length : Int) := of_decide_eq_true asm_
              obtain ⟨ad103, e103, hx103_0⟩ := Kd.at_int HR0.out x3_1 p103 q103
              obtain rfl : ad102 = ad103 := (by injection e103)
              replace p103 := eq_true p103
              replace q103 := eq_true q103
              go_wp2
              repeat (go_quiet (fail); try go_wp2)
              go_ret
              exact ⟨by first | rfl | (simp; done) | (simp [*]; done), by repeat (first | exact jO.refl _ | apply jO.step)⟩
            · rw [if_neg c5] at H
              have c5b0 : decide (5 < (rd l0 x3_1)) = false := decide_eq_false c5
              clear c5
              by_cases c6 : x3_1 > 0
              · rw [if_pos c6] at H
                have c6b0 : decide (0 < x3_1) = true := decide_eq_true c6
                clear c6
                obtain ⟨ji7, hji7⟩ : ∃ j_ : Int, (wrap64 (x3_1 - 1)) = j_ := ⟨_, rfl⟩
                replace H : (if 0 ≤ (ji7) then (if (ji7) < (l0.length : Int) then (if (rd l0 x3_1) ≤ (rd l0 (ji7)) then (some false) else (stratumref15_right.l0 k1 l0 (wrap64 (x3_1 + 1)))) else (none)) else (none)) = some r := by first | (rw [hji7] at H; exact H) | (simp only [hji7] at H ⊢; exact H)
                have hji7w : (IntKind.i64.wrap (x3_1 - 1)) = ji7 := (iJ _).trans hji7
                by_cases c8 : 0 ≤ (ji7)
                · rw [if_pos c8] at H
                  have c8b0 : decide (0 ≤ (ji7)) = true := decide_eq_true c8
                  clear c8
                  by_cases c9 : (ji7) < (l0.length : Int)
                  · rw [if_pos c9] at H
                    have c9b0 : decide ((ji7) < (l0.length : Int)) = true := decide_eq_true c9
                    clear c9
                    by_cases c10 : (rd l0 x3_1) ≤ (rd l0 (ji7))
                    · rw [if_pos c10] at H
                      have c10b0 : decide ((rd l0 x3_1) ≤ (rd l0 (ji7))) = true := decide_eq_true c10
                      clear c10
                      obtain rfl := Option.some.inj H
                      have p102 : 0 ≤ (x3_1 : Int) := of_decide_eq_true asm_
                      have q102 : x3_1 < (l0.length : Int) := of_decide_eq_true asm_
                      obtain ⟨ad102, e102, hx102_0⟩ := Kd.at_int HR0.out x3_1 p102 q102
                      cases e102
                      replace p102 := eq_true p102
                      replace q102 := eq_true q102
                      have p103 : 0 ≤ (x3_1 : Int) := of_decide_eq_true asm_
                      have q103 : x3_1 < (l0.length : Int) := of_decide_eq_true asm_
                      obtain ⟨ad103, e103, hx103_0⟩ := Kd.at_int HR0.out x3_1 p103 q103
                      obtain rfl : ad102 = ad103 := (by injection e103)
                      replace p103 := eq_true p103
                      replace q103 := eq_true q103
                      have p104 : 0 ≤ (x3_1 : Int) := of_decide_eq_true asm_
                      have q104 : x3_1 < (l0.length : Int) := of_decide_eq_true asm_
                      obtain ⟨ad104, e104, hx104_0⟩ := Kd.at_int HR0.out x3_1 p104 q104
                      obtain rfl : ad102 = ad104 := (by injection e104)
                      replace p104 := eq_true p104
                      replace q104 := eq_true q104
                      have p105 : 0 ≤ ((ji7) : Int) := of_decide_eq_true asm_
                      have q105 : (ji7) < (l0.length : Int) := of_decide_eq_true asm_
                      obtain ⟨ad105, e105, hx105_0⟩ := Kd.at_int HR0.out (ji7) p105 q105
                      obtain rfl : ad102 = ad105 := (by injection e105)
                      replace p105 := eq_true p105
                      replace q105 := eq_true q105
                      go_wp2
                      repeat (go_quiet (fail); try go_wp2)
                      go_ret
                      exact ⟨by first | rfl | (simp; done) | (simp only [← hji7] <;> (first | rfl | simp)) | (simp [*]; done), by repeat (first | exact jO.refl _ | apply jO.step)⟩
                    · rw [if_neg c10] at H
                      have c10b0 : decide ((rd l0 x3_1) ≤ (rd l0 (ji7))) = false := decide_eq_false c10
                      clear c10
                      have H' := iC.mk H
                      clear H
                      have p102 : 0 ≤ (x3_1 : Int) := of_decide_eq_true asm_
                      have q102 : x3_1 < (l0.length : Int) := of_decide_eq_true asm_
                      obtain ⟨ad102, e102, hx102_0⟩ := Kd.at_int HR0.out x3_1 p102 q102
                      cases e102
                      replace p102 := eq_true p102
                      replace q102 := eq_true q102
                      have p103 : 0 ≤ (x3_1 : Int) := of_decide_eq_true asm_
                      have q103 : x3_1 < (l0.length : Int) := of_decide_eq_true asm_
                      obtain ⟨ad103, e103, hx103_0⟩ := Kd.at_int HR0.out x3_1 p103 q103
                      obtain rfl : ad102 = ad103 := (by injection e103)
                      replace p103 := eq_true p103
                      replace q103 := eq_true q103
                      have p104 : 0 ≤ (x3_1 : Int) := of_decide_eq_true asm_
                      have q104 : x3_1 < (l0.length : Int) := of_decide_eq_true asm_
                      obtain ⟨ad104, e104, hx104_0⟩ := Kd.at_int HR0.out x3_1 p104 q104
                      obtain rfl : ad102 = ad104 := (by injection e104)
                      replace p104 := eq_true p104
                      replace q104 := eq_true q104
                      have p105 : 0 ≤ ((ji7) : Int) := of_decide_eq_true asm_
                      have q105 : (ji7) < (l0.length : Int) := of_decide_eq_true asm_
                      obtain ⟨ad105, e105, hx105_0⟩ := Kd.at_int HR0.out (ji7) p105 q105
                      obtain rfl : ad102 = ad105 := (by injection e105)
                      replace p105 := eq_true p105
                      replace q105 := eq_true q105
                      go_wp2
                      repeat (go_quiet (fail); try go_wp2)
                      go_roundg k1
                      case measure => have := HK1.out; omega
                      case rel => exact ⟨(wrap64 (x3_1 + 1)), (by first | rfl | (simp; done) | (simp [*]; done)), H', ⟨by have := HK1.out; omega⟩, by repeat (first | exact jO.refl _ | apply jO.step)⟩
                  · rw [if_neg c9] at H
                    exact absurd H (by simp)
                · rw [if_neg c8] at H
                  exact absurd H (by simp)
              · rw [if_neg c6] at H
                have c6b0 : decide (0 < x3_1) = false := decide_eq_false c6
                clear c6
                have H' := iC.mk H
                clear H
                have p102 : 0 ≤ (x3_1 : Int) := of_decide_eq_true asm_
                have q102 : x3_1 < (l0.length : Int) := of_decide_eq_true asm_
                obtain ⟨ad102, e102, hx102_0⟩ := Kd.at_int HR0.out x3_1 p102 q102
                cases e102
                replace p102 := eq_true p102
                replace q102 := eq_true q102
                have p103 : 0 ≤ (x3_1 : Int) := of_decide_eq_true asm_
                have q103 : x3_1 < (l0.length : Int) := of_decide_eq_true asm_
                obtain ⟨ad103, e103, hx103_0⟩ := Kd.at_int HR0.out x3_1 p103 q103
                obtain rfl : ad102 = ad103 := (by injection e103)
                replace p103 := eq_true p103
                replace q103 := eq_true q103
                go_wp2
                repeat (go_quiet (fail); try go_wp2)
                go_roundg k1
                case measure => have := HK1.out; omega
                case rel => exact ⟨(wrap64 (x3_1 + 1)), (by first | rfl | (simp; done) | (simp [*]; done)), H', ⟨by have := HK1.out; omega⟩, by repeat (first | exact jO.refl _ | apply jO.step)⟩
        · rw [if_neg c3] at H
          exact absurd H (by simp)
      · rw [if_neg c2] at H
        have c2b0 : decide (x3_1 < (l0.length : Int)) = false := decide_eq_false c2
        clear c2
        obtain rfl := Option.some.inj H
        go_wp2
        repeat (go_quiet (fail); try go_wp2)
        go_ret
        exact ⟨by first | rfl | (simp; done) | (simp [*]; done), by repeat (first | exact jO.refl _ | apply jO.step)⟩
def stratumref15_CopyMap.f (a0_0 : Int) (l0_1 : List (S96)) : Option (Int × (List (S96))) := if ([] : List (S96)).length + l0_1.length < 8796093022208 then (some (a0_0, (([] : List (S96)) ++ l0_1))) else (none)
def stratumlaw15_heavy.l0 : Nat → List (S69) → Int → Option (Bool)
  | 0, _, _ => none
  | k + 1, x0, x3 => if x3 < (x0.length : Int) then (if 0 ≤ x3 then (if (((MM x0 x3).f6).length : Int) > 20 then (some true) else (stratumlaw15_heavy.l0 k x0 (wrap64 (x3 + 1)))) else (none)) else (some (decide ((x0.length : Int) > 60)))
def stratumlaw15_heavy.f (k : Nat) (l0 : List (S69)) : Option (Bool) := stratumlaw15_heavy.l0 k l0 0
end Go.Proofs.Ytjppookmjdaplaa.J
end

section
namespace Go.Proofs.Ytjppookmjdaplaa.K
open Go Go.RowKit Go.Maps Go.Proofs.YtjppookmjdaplaaW.PrintWords Go.Proofs.YtjppookmjdaplaaW.PrintLast Go.Proofs.YtjppookmjdaplaaW.PrintMore Go.Proofs.Ytjppookmjdaplaa.My
abbrev TBa := J.S130
abbrev kB : Kd TBa := J.k130
def toB (p : Int × CB) : TBa := ⟨p.1, ⟨p.2.st, p.2.at_⟩, p.2.nodes, p.2.said, p.2.ended⟩
/-- What always holds of who has said so. -/
def SdOk (l : List (Int × CB)) : Prop := ∀ p ∈ l, p.2.said.Nodup ∧ (∀ x ∈ p.2.said, x ∈ p.2.nodes) ∧ p.2.nodes.Nodup
/-- The document's Coord lies at rc. -/
structure Ro (w : World) (B rc : Nat) (s : CS) : Prop where
  cB : B ≤ rc
  blk : ∃ A k A' k', w.heap[rc]? = some (Obj.cells #[.slice A s.L.length k, .int .u32 s.last, .int .u32 s.starts, .int .u32 s.begun, .int .u32 s.ep, .slice A' s.sp.length k'] 109 (0, 0)) ∧
    kB.R 130 w B (fun _ => True) (.slice A s.L.length k) (s.L.map toB) ∧ kS.R 96 w B (fun _ => True) (.slice A' s.sp.length k') s.sp
  sd : SdOk s.L
theorem kB_E : kB.E = [3, 3] := rfl
theorem Ro.lt {w : World} {B rc : Nat} {s : CS} (h : Ro w B rc s) : rc < w.heap.size := by obtain ⟨A, k, A', k', h1, _⟩ := h.blk; exact jJ h1
theorem Ro.Ble {w : World} {B rc : Nat} {s : CS} (h : Ro w B rc s) : B ≤ w.heap.size := Nat.le_trans h.cB (Nat.le_of_lt h.lt)
theorem Ro.below {w w' : World} {B rc : Nat} {s : CS} (h : Ro w B rc s) (hb : Below w.heap.size w w') : Ro w' B rc s := by
  obtain ⟨A, k, A', k', h1, h2, h3⟩ := h.blk
  exact ⟨h.cB, ⟨A, k, A', k', iV hb h1, Kd.R_below h2 hb, Kd.R_below h3 hb⟩, h.sd⟩
/-- Only blocks of the document's Coord may have changed. -/
structure RoFr (B : Nat) (w w' : World) : Prop where
  os : w'.os = w.os
  tape : w'.tape = w.tape
  output : w'.output = w.output
  size : w.heap.size ≤ w'.heap.size
  low : ∀ k : Nat, k < B → w'.heap[k]? = w.heap[k]?
  keep : ∀ (k : Nat) (o : Obj), w.heap[k]? = some o → (∀ (cs : Array Value) (t : TypeId) (fz : Nat × Nat), o = Obj.cells cs t fz → t ≠ 109 ∧ t ≠ 130) → w'.heap[k]? = some o
theorem RoFr.refl (B : Nat) (w : World) : RoFr B w w := ⟨rfl, rfl, rfl, Nat.le_refl _, fun _ _ => rfl, fun _ _ h _ => h⟩
theorem RoFr.trans {B : Nat} {w w1 w2 : World} (h : RoFr B w w1) (k : RoFr B w1 w2) : RoFr B w w2 :=
  ⟨k.os.trans h.os, k.tape.trans h.tape, k.output.trans h.output, Nat.le_trans h.size k.size, fun i hi => (k.low i hi).trans (h.low i hi), fun i o hi ho => k.keep i o (h.keep i o hi ho) ho⟩
theorem RoFr.of_below {B : Nat} {w w' : World} (h : Below w.heap.size w w') (hB : B ≤ w.heap.size) : RoFr B w w' :=
  ⟨h.os, h.tape, h.output, h.size, fun k hk => h.block k (by omega), fun k o hk _ => (h.block k (Array.getElem?_eq_some_iff.1 hk).1).trans hk⟩
theorem RoFr.below {B : Nat} {w w' : World} (h : RoFr B w w') : Below B w w' := ⟨h.os, h.tape, h.output, h.size, h.low⟩
theorem RoFr.of_grown {B g : Nat} {w w' : World} (h : w.grownBy w' (some g)) (hB : B ≤ g) (hz : B ≤ w.heap.size) {cs : Array Value} {t : TypeId} {fz : Nat × Nat} (hg : w.heap[g]? = some (Obj.cells cs t fz)) (ht : t = 109 ∨ t = 130) : RoFr B w w' :=
  ⟨h.os, h.tape, h.output, h.size, fun k hk => h.block k (by omega) (by intro e; injection e with e; omega), fun k o hk h1 => by
    refine (h.block k (Array.getElem?_eq_some_iff.1 hk).1 (fun e => ?_)).trans hk
    injection e with e
    subst e
    rw [hg] at hk
    injection hk with hk
    have := h1 cs t fz hk.symm
    rcases ht with rfl | rfl
    · exact this.1 rfl
    · exact this.2 rfl⟩
theorem RoFr.of_row {B : Nat} {w w' : World} {ok : Nat → Prop} {v : Value} {l : List TBa} (hr : kB.R 130 w B ok v l) (hz : B ≤ w.heap.size) (h : w.grownBy w' v.ownBlock) : RoFr B w w' := by
  cases hv : v.ownBlock with
  | none => rw [hv] at h; exact RoFr.of_below ⟨h.os, h.tape, h.output, h.size, fun i hi => h.block i hi (by simp)⟩ hz
  | some g =>
    obtain ⟨inner, ho⟩ := Kd.R_own hr
    obtain ⟨cs, hc⟩ := jZ ho g hv
    rw [hv] at h
    exact RoFr.of_grown h (own_base ho g hv) hz hc (.inr rfl)
theorem RoFr.rows {α : Type} {d : Kd α} {e B B' : Nat} {w w' : World} {ok : Nat → Prop} {v : Value} {l : List α} (hf : RoFr B w w') (h : d.R e w B' ok v l) (hE : ∀ q, q ∈ e :: d.E → q ≠ 109 ∧ q ≠ 130) : d.R e w' B' ok v l :=
  Kd.R_mono (Kd.R_move (Kd.R_bound h) (fun k hk => by obtain ⟨_, _, _, q, hq, cs, hc⟩ := hk; rw [hc]; exact hf.keep k _ hc (fun cs' t fz e => by injection e with _ e2 _; subst e2; exact hE q hq))) (fun _ hk => hk.1)
/-- What the boss knows stays where the document's Coord changes, and the other way round. -/
theorem Co.ro {Z : Nat} {w w' : World} {B c n : Nat} {s : CS} (h : Co Z w B c n s) (hf : RoFr B w w') : Co Z w' B c n s := by
  obtain ⟨mb, D, ptr, mp, h⟩ := h
  obtain ⟨A, k, h1, _⟩ := h.blk
  have hm : ∀ {k : TypeId} {R : Value → Option (DataW Nat × List MemPlace)} {j n : Nat} {E : DataW Nat}, w.ownsMap Try.prog k R j n E → w'.heap[j]? = w.heap[j]? := fun hj => by
    have hj' := hj
    obtain ⟨es, clock, h1, r⟩ := hj
    rw [h1]
    exact hf.keep _ _ h1 (fun cs t fz e => by cases e)
  refine ⟨mb, D, ptr, mp, h.step hf.size ?_ (hm h.own) (fun id b hb => ⟨?_, ?_⟩) (fun k q cs hq hk => ?_)⟩
  · rw [h1]; exact hf.keep _ _ h1 (fun cs t fz e => by injection e with _ e2 _; subst e2; exact ⟨by decide, by decide⟩)
  · obtain ⟨A', k', h2, _⟩ := (h.bat id b hb).blk
    rw [h2]; exact hf.keep _ _ h2 (fun cs t fz e => by injection e with _ e2 _; subst e2; exact ⟨by decide, by decide⟩)
  · obtain ⟨E, h3, _⟩ := (h.bat id b hb).map
    exact hm h3
  · rw [hk]; exact hf.keep _ _ hk (fun cs t fz e => by injection e with _ e2 _; subst e2; rcases hq with rfl | rfl <;> exact ⟨by decide, by decide⟩)
theorem Ro.co {w w' : World} {B rc : Nat} {s : CS} (h : Ro w B rc s) (hf : CoFr B w w') : Ro w' B rc s := by
  obtain ⟨A, k, A', k', h1, h2, h3⟩ := h.blk
  refine ⟨h.cB, ⟨A, k, A', k', hf.cells _ _ _ _ h1 (by decide) (by decide), hf.rows h2 (fun q hq => ?_), hf.rows h3 (fun q hq => ?_)⟩, h.sd⟩
  · rw [kB_E] at hq
    simp at hq
    rcases hq with rfl | rfl <;> exact ⟨by decide, by decide⟩
  · (obtain rfl : q = 96 := (by simpa [show kS.E = [] from rfl] using hq)); exact (by decide)
/-- A batch's place. -/
def At (l : List (Int × CB)) (id : Int) (i : Int) : Prop := (i = -1 ∧ getB l id = none) ∨ ∃ (k : Nat) (b : CB), i = k ∧ l[k]? = some (id, b) ∧ getB l id = some b
def StAt (s : CS) (id st : Int) (i : Int) : Prop := (i = -1 ∧ s.inn id st = none) ∨ ∃ (k : Nat) (b : CB), i = k ∧ s.L[k]? = some (id, b) ∧ s.inn id st = some b
/-- Batch k's cells. -/
theorem Ro.get {w : World} {B rc : Nat} {s : CS} (h : Ro w B rc s) {k : Nat} {p : Int × CB} (hk : s.L[k]? = some p) :
    ∃ g q A' k', w.heap[rc]? = some (Obj.cells #[.slice (some ⟨g, 0, none⟩) s.L.length q, .int .u32 s.last, .int .u32 s.starts, .int .u32 s.begun, .int .u32 s.ep, .slice A' s.sp.length k'] 109 (0, 0)) ∧
      kB.R 130 w B (fun _ => True) (.slice (some ⟨g, 0, none⟩) s.L.length q) (s.L.map toB) ∧ kS.R 96 w B (fun _ => True) (.slice A' s.sp.length k') s.sp ∧
      ∃ v3 v4, (Kd.int .i64).R 3 w B (fun j => j ≠ g) v3 p.2.nodes ∧ (Kd.int .i64).R 3 w B (fun j => j ≠ g) v4 p.2.said ∧
        w.cell? ⟨g, k * 6, none⟩ = some (.int .u32 p.1) ∧ w.cell? ⟨g, k * 6 + 1, none⟩ = some (.int .u8 p.2.st) ∧ w.cell? ⟨g, k * 6 + 2, none⟩ = some (.int .u32 p.2.at_) ∧ w.cell? ⟨g, k * 6 + 3, none⟩ = some v3 ∧ w.cell? ⟨g, k * 6 + 4, none⟩ = some v4 ∧ w.cell? ⟨g, k * 6 + 5, none⟩ = some (.bool p.2.ended) ∧
        (∀ j, w.frozen? ⟨g, k * 6 + j, none⟩ = false) := by
  obtain ⟨A, q, A', k', h1, h2, h3⟩ := h.blk
  have hlt : k < s.L.length := by have := (List.getElem?_eq_some_iff.1 hk).1; exact this
  obtain ⟨g, cap, he, _⟩ := Kd.R_form h2 (by rw [List.length_map]; omega)
  injection he with e1 _ e3
  subst e1; subst e3
  obtain ⟨c, hcl, hM, hcc, hfz⟩ := Kd.R_elem h2 J.z130 (k : Int) (by omega) (by omega)
  have hp : (s.L.map toB).getD (k : Int).toNat J.z130 = toB p := by
    rw [Int.toNat_natCast, List.getD_eq_getElem?_getD, List.getElem?_map, hk]; rfl
  rw [hp] at hM
  obtain ⟨v3, v4, rfl, g3, g4⟩ := J.k130_openM hM
  rw [Int.toNat_natCast] at hcc hfz
  exact ⟨g, q, A', k', h1, h2, h3, v3, v4, Kd.R_mono g3 (fun _ hj => hj.2), Kd.R_mono g4 (fun _ hj => hj.2), hcc 0 _ rfl, hcc 1 _ rfl, hcc 2 _ rfl, hcc 3 _ rfl, hcc 4 _ rfl, hcc 5 _ rfl, hfz⟩
/-- Batch k is written anew. -/
theorem Ro.put {w : World} {B rc : Nat} {s : CS} (h : Ro w B rc s) {k : Nat} {p : Int × CB} (hk : s.L[k]? = some p) {g q : Nat} {A' : Option Addr} {k' : Nat} (hb : w.heap[rc]? = some (Obj.cells #[.slice (some ⟨g, 0, none⟩) s.L.length q, .int .u32 s.last, .int .u32 s.starts, .int .u32 s.begun, .int .u32 s.ep, .slice A' s.sp.length k'] 109 (0, 0)))
    (p' : Int × CB) {v3 v4 : Value} (r3 : (Kd.int .i64).R 3 w B (fun j => j ≠ g) v3 p'.2.nodes) (r4 : (Kd.int .i64).R 3 w B (fun j => j ≠ g) v4 p'.2.said) (hsd : SdOk (s.L.set k p')) :
    Ro (w.setCells g (k * 6) [.int .u32 p'.1, .int .u8 p'.2.st, .int .u32 p'.2.at_, v3, v4, .bool p'.2.ended]) B rc (s.withL (s.L.set k p')) ∧ RoFr B w (w.setCells g (k * 6) [.int .u32 p'.1, .int .u8 p'.2.st, .int .u32 p'.2.at_, v3, v4, .bool p'.2.ended]) := by
  obtain ⟨A, q2, A2, k2, h1, h2, h3⟩ := h.blk
  rw [hb] at h1
  injection h1 with h1
  injection h1 with h1 _ _
  have e0 := congrArg (fun a : Array Value => a[0]?) h1
  have e5 := congrArg (fun a : Array Value => a[5]?) h1
  simp at e0 e5
  obtain ⟨rfl, rfl⟩ := e0
  obtain ⟨rfl, rfl⟩ := e5
  have hlt : k < s.L.length := (List.getElem?_eq_some_iff.1 hk).1
  obtain ⟨c, hcl, hM, hcc, hfz⟩ := Kd.R_elem h2 J.z130 (k : Int) (by omega) (by omega)
  have hs := Kd.R_seg (j := 0) (okp := fun j => j ≠ g) (seg := [.int .u32 p'.1, .int .u8 p'.2.st, .int .u32 p'.2.at_, v3, v4, .bool p'.2.ended]) h2 (k : Int) (by omega) (by omega) hcl hcc (x' := toB p') (by exact Nat.le_refl 6)
    (by
      rw [List.take_zero, List.nil_append, List.drop_of_length_le (by rw [hcl]; exact Nat.le_refl 6), List.append_nil]
      exact J.k130_mkM w B _ (toB p') r3 r4) (fun j hj => ⟨trivial, hj⟩)
  rw [Int.toNat_natCast, Nat.add_zero] at hs
  obtain ⟨hR, hg⟩ := hs
  obtain ⟨inn, hown⟩ := Kd.R_own h2
  obtain ⟨cg, hcg⟩ := jZ hown g (by simp [Value.ownBlock])
  have hgB := own_base hown g (by simp [Value.ownBlock])
  have hf : RoFr B w _ := RoFr.of_grown hg hgB h.Ble hcg (.inr rfl)
  refine ⟨⟨h.cB, ⟨some ⟨g, 0, none⟩, q, A', k', ?_, ?_, hf.rows h3 (fun z hz => by (obtain rfl : z = 96 := (by simpa [show kS.E = [] from rfl] using hz)); exact (by decide))⟩, hsd⟩, hf⟩
  · show _ = some (Obj.cells #[.slice (some ⟨g, 0, none⟩) (s.L.set k p').length q, _, _, _, _, _] _ _)
    rw [List.length_set]
    exact (hg.block rc (jJ hb) (fun e => by injection e with e; subst e; rw [hb] at hcg; injection hcg with hcg; injection hcg with _ e2 _; exact absurd e2 (by decide))).trans hb
  · show kB.R _ _ _ _ (.slice _ (s.L.set k p').length q) ((s.L.set k p').map toB)
    rw [List.length_set, List.map_set]
    exact hR
set_option maxRecDepth 20000 in
theorem oM {w : World} {B rc : Nat} {s : CS} (h : Ro w B rc s) (hnd : (keysB s.L).Nodup) (id : Int) :
    Calls Try.prog 78 #[.pointer (some ⟨rc, 0, none⟩), .int .u32 id] w fun e w' => ∃ i, e = .returned (.int .i64 i) ∧ w' = w ∧ At s.L id i := by
  have HH := iC.mk h
  obtain ⟨A, k, A', k', h1, h2, h3⟩ := h.blk
  have hmx : s.L.length ≤ 9223372036854775807 := by have := (Kd.R_reads' h2).2.2.2.1; rw [List.length_map] at this; omega
  have c0 := (iD h1 0).trans (show _ = some (Value.slice A s.L.length k) from rfl)
  obtain ⟨N, hN⟩ : ∃ N, s.L.length = N := ⟨_, rfl⟩
  have HN := iC.mk hN
  have HD := iC.mk hnd
  have H1 := iC.mk h1
  rw [hN] at c0 hmx
  clear h h1 h2 h3 hN hnd
  go_enter Try.func78, Try.ntmps78
  go_wp2_with fail
  go_loopw [5] (fun q wr => ∃ i : Nat, q = .int .i64 (i : Int) ∧ i ≤ N ∧ wr = w ∧ iC (getB s.L id = getB (s.L.drop i) id)) (fun q _ => ((N : Int) - intOf q).toNat)
  case atStart => exact ⟨0, rfl, Nat.zero_le _, rfl, ⟨by rw [List.drop_zero]⟩⟩
  case round =>
    obtain ⟨i, rfl, hi, rfl, HG⟩ := hrel
    by_cases hlt : i < N
    · have hlt' : i < s.L.length := by rw [HN.out]; exact hlt
      obtain ⟨p, hp⟩ : ∃ p, s.L[i]? = some p := ⟨_, List.getElem?_eq_getElem hlt'⟩
      obtain ⟨g, q, A1, k1, g1, _, _, v3, v4, _, _, y0, _⟩ := HH.out.get hp
      have hA := H1.out.symm.trans g1
      injection hA with hA
      injection hA with hA _ _
      have hA : (Value.slice A s.L.length k) = .slice (some ⟨g, 0, none⟩) s.L.length q := by
        have := congrArg (fun a : Array Value => a[0]?) hA
        simpa using this
      injection hA with e1 _ e3
      subst e1; subst e3
      have hw : wrap64 ((i : Int) + 1) = ((i + 1 : Nat) : Int) := by unfold wrap64; omega
      have hdr : s.L.drop i = p :: s.L.drop (i + 1) := by rw [List.drop_eq_getElem_cons hlt']; rw [List.getElem?_eq_getElem hlt'] at hp; injection hp with hp; rw [hp]
      have HG2 := iC.mk (show getB s.L id = if p.1 = id then some p.2 else getB (s.L.drop (i + 1)) id from by rw [HG.out, hdr]; rfl)
      have HP := iC.mk hp
      clear g1 hp hdr HG
      by_cases he : p.1 = id
      · have hb : (p.1 == id) = true := beq_iff_eq.mpr he
        go_wp2
        go_ret
        refine ⟨_, rfl, rfl, .inr ⟨i, p.2, rfl, ?_, by rw [HG2.out, if_pos he]⟩⟩
        rw [HP.out, ← he]
      · have hb : (p.1 == id) = false := beq_eq_false_iff_ne.mpr he
        go_wp2
        go_roundw
        case rel => exact ⟨i + 1, by first | rfl | rw [hw], hlt, trivial, ⟨by rw [HG2.out, if_neg he]⟩⟩
        case measure => (first | (simp [intOf, hw]; omega) | (simp [intOf]; omega))
    · obtain rfl : i = N := by omega
      go_wp2
      go_ret
      refine ⟨-1, rfl, by trivial, .inl ⟨by trivial, ?_⟩⟩
      rw [HG.out, List.drop_eq_nil_of_le (by rw [HN.out]; exact Nat.le_refl _)]; rfl
end Go.Proofs.Ytjppookmjdaplaa.K
end

section
namespace Go.Proofs.Ytjppookmjdaplaa.K
open Go Go.RowKit Go.Maps Go.Proofs.YtjppookmjdaplaaW.PrintWords Go.Proofs.YtjppookmjdaplaaW.PrintLast Go.Proofs.YtjppookmjdaplaaW.PrintMore Go.Proofs.Ytjppookmjdaplaa.My
theorem CS.inn_none {s : CS} {id st : Int} (h : getB s.L id = none) : s.inn id st = none := by unfold CS.inn; rw [h]; rfl
theorem CS.inn_some {s : CS} {id st : Int} {b : CB} (h : getB s.L id = some b) : s.inn id st = if b.st = st then some b else none := by
  unfold CS.inn; rw [h]
  by_cases e : b.st = st
  · rw [if_pos e]; simp [Option.filter, e]
  · rw [if_neg e]; simp [Option.filter, e]
set_option maxRecDepth 20000 in
theorem nU {w : World} {B rc : Nat} {s : CS} (h : Ro w B rc s) (hnd : (keysB s.L).Nodup) (id st : Int) :
    Calls Try.prog 79 #[.pointer (some ⟨rc, 0, none⟩), .int .u32 id, .int .u8 st] w fun e w' => ∃ i, e = .returned (.int .i64 i) ∧ w' = w ∧ StAt s id st i := by
  have hf := oM h hnd id
  have HH := iC.mk h
  clear h hnd
  go_enter Try.func79, Try.ntmps79
  go_wp2_with fail
  go_at_call 78
  refine hf.mono ?_
  rintro e w1 ⟨i, rfl, rfl, hA⟩
  clear hf
  rcases hA with ⟨rfl, hg⟩ | ⟨k, b, rfl, hk, hg⟩
  · have hn := iC.mk (CS.inn_none (st := st) hg)
    clear hg
    go_wp2
    go_ret
    exact ⟨-1, rfl, rfl, .inl ⟨rfl, hn.out⟩⟩
  · obtain ⟨g, q, A', k', h1, h2, _, v3, v4, _, _, _, y1, _⟩ := HH.out.get hk
    have c0 := (iD h1 0).trans (show _ = some (Value.slice (some ⟨g, 0, none⟩) s.L.length q) from rfl)
    have hlt : k < s.L.length := (List.getElem?_eq_some_iff.1 hk).1
    have hn := iC.mk (CS.inn_some (st := st) hg)
    have HK := iC.mk hk
    have hk0 : ¬ ((k : Int) < 0) := by omega
    obtain ⟨N, hN⟩ : ∃ N, s.L.length = N := ⟨_, rfl⟩
    rw [hN] at c0 hlt
    clear h1 h2 hk hg hN
    by_cases he : b.st = st
    · have hb : (b.st != st) = false := by simp [he]
      go_wp2
      go_ret
      exact ⟨_, rfl, rfl, .inr ⟨k, b, rfl, HK.out, by rw [hn.out, if_pos he]⟩⟩
    · have hb : (b.st != st) = true := by simpa using he
      go_wp2
      go_ret
      exact ⟨-1, rfl, rfl, .inl ⟨rfl, by rw [hn.out, if_neg he]⟩⟩
theorem yL (l : List Int) (x : Int) (hl : l.length ≤ 1000000) : ∀ (n k i : Nat), i + n = l.length → n < k → J.stratumref15_has.l0 k l x i = some (decide (x ∈ l.drop i))
  | _, 0, _, _, h => by omega
  | 0, k + 1, i, hi, _ => by
    rw [J.stratumref15_has.l0, if_neg (by omega), List.drop_eq_nil_of_le (by omega)]; simp
  | n + 1, k + 1, i, hi, hk => by
    have hlt : i < l.length := by omega
    have hr : rd l (i : Int) = l[i] := by show l.getD (i : Int).toNat _ = _; rw [Int.toNat_natCast, List.getD_eq_getElem?_getD, List.getElem?_eq_getElem hlt]; rfl
    rw [J.stratumref15_has.l0, if_pos (by omega), if_pos (by omega), hr, List.drop_eq_getElem_cons hlt, show wrap64 ((i : Int) + 1) = ((i + 1 : Nat) : Int) from by unfold wrap64; omega]
    by_cases h : l[i] = x
    · rw [if_pos h]; simp [h]
    · rw [if_neg h, yL l x hl n k (i + 1) (by omega) (by omega)]
      exact congrArg some (decide_eq_decide.2 ⟨fun h' => List.mem_cons_of_mem _ h', fun h' => (List.mem_cons.1 h').resolve_left (fun e => h e.symm)⟩)
theorem zN (A : Option Addr) (c : Nat) (l : List Int) (x : Int) (w : World) (hr : (Kd.int .i64).C w A l.length l) (hc : l.length ≤ c) (hl : l.length ≤ 1000000) :
    Calls Try.prog 96 #[.slice A l.length c, .int .i64 x] w fun e w' => e = .returned (.bool (decide (x ∈ l))) ∧ Below w.heap.size w w' :=
  (J.stratumref15_has.calls (l.length + 1) A c l x _ w hr hc (by
    unfold J.stratumref15_has.f
    have := yL l x hl l.length (l.length + 1) 0 (by omega) (by omega)
    rw [List.drop_zero] at this
    exact this)).mono (fun _ _ hh => ⟨hh.1, hh.2.below⟩)
theorem nR : ∀ (ss m : List Int), ss.Nodup → (∀ x ∈ ss, x ∈ m) → ss.length ≤ m.length
  | [], _, _, _ => Nat.zero_le _
  | a :: r, m, hn, hs => by
    have ha : a ∈ m := hs a (by simp)
    have hn' := List.nodup_cons.1 hn
    have h := nR r (m.erase a) hn'.2 (fun x hx => (List.mem_erase_of_ne (fun e => hn'.1 (by subst e; exact hx))).2 (hs x (by simp [hx])))
    rw [List.length_erase_of_mem ha] at h
    have : 0 < m.length := List.length_pos_of_mem ha
    simp only [List.length_cons]; omega
theorem oD {w : World} {B : Nat} {ok : Nat → Prop} {v : Value} {l : List Int} (h : (Kd.int .i64).R 3 w B ok v l) : ∃ A c, v = .slice A l.length c ∧ l.length ≤ c ∧ (Kd.int .i64).C w A l.length l := Kd.R_reads h
theorem vN {l : List (Int × CB)} (hn : (keysB l).Nodup) {id : Int} {k : Nat} {b : CB} (h : l[k]? = some (id, b)) (b' : CB) : setB l id b' = l.set k (id, b') := by
  unfold setB
  apply List.ext_getElem?
  intro j
  have hk : k < l.length := (List.getElem?_eq_some_iff.1 h).1
  rw [List.getElem?_map, List.getElem?_set]
  by_cases e : k = j
  · subst e; rw [if_pos rfl, if_pos hk, h]; simp
  · rw [if_neg e]
    cases hj : l[j]? with
    | none => rfl
    | some p =>
      have hne : p.1 ≠ id := fun e2 => e (by
        have h1 : (keysB l)[k]? = some id := by unfold keysB; rw [List.getElem?_map, h]; rfl
        have h2 : (keysB l)[j]? = some id := by unfold keysB; rw [List.getElem?_map, hj]; simp [e2]
        obtain ⟨g1, e1⟩ := List.getElem?_eq_some_iff.1 h1
        obtain ⟨g2, e3⟩ := List.getElem?_eq_some_iff.1 h2
        exact (List.getElem_inj hn).1 (e1.trans e3.symm))
      simp [hne]
theorem LU {b : CB} (hs : b.said.Nodup) (hm : ∀ x ∈ b.said, x ∈ b.nodes) (hn : b.nodes.Nodup) : b.all = decide (b.said.length = b.nodes.length) := by
  unfold CB.all
  rw [Bool.eq_iff_iff, List.isEmpty_iff, decide_eq_true_eq]
  constructor
  · intro h
    refine Nat.le_antisymm (nR b.said b.nodes hs hm) (nR b.nodes b.said hn (fun x hx => ?_))
    by_cases hx2 : x ∈ b.said
    · exact hx2
    · have : x ∈ b.lacks := (CB.mem_lacks b x).2 ⟨hx, hx2⟩
      rw [h] at this; cases this
  · intro h
    rw [List.eq_nil_iff_forall_not_mem]
    intro x hx
    have hx' := (CB.mem_lacks b x).1 hx
    have := nR (x :: b.said) b.nodes (List.nodup_cons.2 ⟨hx'.2, hs⟩) (fun y hy => by rcases List.mem_cons.1 hy with rfl | hy; exact hx'.1; exact hm y hy)
    simp only [List.length_cons] at this; omega
theorem SdOk.set {l : List (Int × CB)} (h : SdOk l) {k : Nat} {id : Int} {b : CB} (hk : l[k]? = some (id, b)) (n : Int) : SdOk (l.set k (id, b.say n)) := by
  intro p hp
  have hb := h _ (List.mem_of_getElem? hk)
  rcases List.mem_or_eq_of_mem_set hp with hp | rfl
  · exact h p hp
  · show (b.say n).said.Nodup ∧ (∀ x ∈ (b.say n).said, x ∈ (b.say n).nodes) ∧ (b.say n).nodes.Nodup
    rw [CB.say_nodes]
    unfold CB.say
    split
    · rename_i hc
      refine ⟨List.nodup_append.2 ⟨hb.1, by simp, fun a ha c hc2 => by simp at hc2; subst hc2; exact fun e => hc.2 (e ▸ ha)⟩, fun x hx => ?_, hb.2.2⟩
      rcases List.mem_append.1 hx with hx | hx
      · exact hb.2.1 x hx
      · simp at hx; subst hx; exact hc.1
    · exact hb
theorem xE {α : Type} {l : List α} {k : Nat} {p : α} (h : l[k]? = some p) : l.set k p = l := by
  apply List.ext_getElem?
  intro j
  rw [List.getElem?_set]
  by_cases e : k = j
  · subst e; rw [if_pos rfl, if_pos (List.getElem?_eq_some_iff.1 h).1, h]
  · rw [if_neg e]
theorem oO : (Try.prog.info? 3).map (fun i => (i.zero, i.size, i.bytes)) = some (some (.int .i64 0), (Kd.int .i64).sz, 8) := by kernel_rfl
set_option maxRecDepth 20000 in
set_option maxHeartbeats 4000000 in
theorem uJ {w : World} {B rc : Nat} {s : CS} (h : Ro w B rc s) (hok : s.Ok) {k : Nat} {id : Int} {b : CB} (hk : s.L[k]? = some (id, b)) (x : Int) :
    Calls Try.prog 80 #[.pointer (some ⟨rc, 0, none⟩), .int .i64 (k : Int), .int .i64 x] w fun e w' => e = .returned (.bool (b.say x).all) ∧ Ro w' B rc (s.withL (s.L.set k (id, b.say x))) ∧ RoFr B w w' := by
  have hrt := (hok.bat _ (List.mem_of_getElem? hk)).2.2
  have hnl : b.nodes.length ≤ 6 := hrt.len
  have hsd := h.sd _ (List.mem_of_getElem? hk)
  have hsl : b.said.length ≤ 6 := Nat.le_trans (nR _ _ hsd.1 hsd.2.1) hnl
  have hlt : k < s.L.length := (List.getElem?_eq_some_iff.1 hk).1
  have hall : (b.say x).all = decide ((b.say x).said.length = (b.say x).nodes.length) := by
    have := h.sd.set hk x _ (List.mem_of_getElem? (show (s.L.set k (id, b.say x))[k]? = some (id, b.say x) from by rw [List.getElem?_set_self hlt]))
    exact LU this.1 this.2.1 this.2.2
  rw [hall, CB.say_nodes]
  obtain ⟨g, q, A', k', h1, h2, h3, v3, v4, r3, r4, y0, y1, y2, y3, y4, y5, fz⟩ := h.get hk
  simp only at r3 r4 y0 y1 y2 y5
  obtain ⟨A3, c3, rfl, hl3, hC3⟩ := oD r3
  obtain ⟨A4, c4, rfl, hl4, hC4⟩ := oD r4
  have c0 := (iD h1 0).trans (show _ = some (Value.slice (some ⟨g, 0, none⟩) s.L.length q) from rfl)
  have HH := iC.mk h
  have HK := iC.mk hk
  obtain ⟨NL, hNL⟩ : ∃ N, s.L.length = N := ⟨_, rfl⟩
  have HNL := iC.mk hNL
  obtain ⟨N3, hN3⟩ : ∃ N, b.nodes.length = N := ⟨_, rfl⟩
  have HN3 := iC.mk hN3
  obtain ⟨N4, hN4⟩ : ∃ N, b.said.length = N := ⟨_, rfl⟩
  have HN4 := iC.mk hN4
  have HC3 := iC.mk hC3
  have HR3 := iC.mk r3
  have HC4 := iC.mk hC4
  have HFZ := iC.mk fz
  have HB := iC.mk h2
  have H1 := iC.mk h1
  rw [hNL] at c0 hlt
  rw [hN3] at y3 hnl hl3
  rw [hN4] at y4 hsl hl4
  clear h h1 h2 h3 hk hok hrt hsd hall r3 r4 hC3 hC4 hNL hN3 hN4 fz
  go_enter Try.func80, Try.ntmps80
  go_wp2_with fail
  obtain ⟨g1, hg1⟩ : ∃ g1, g1 = w.heap.size := ⟨_, rfl⟩
  obtain ⟨w1, hw1⟩ : ∃ w1, w1 = w.alloc (.cells #[.int .u32 id, .int .u8 b.st, .int .u32 b.at_, .slice A3 N3 c3, .slice A4 N4 c4, .bool b.ended] 130) := ⟨_, rfl⟩
  have hX1 : w1.heap[g1]? = some (.cells #[.int .u32 id, .int .u8 b.st, .int .u32 b.at_, .slice A3 N3 c3, .slice A4 N4 c4, .bool b.ended] 130 (0, 0)) := by rw [hw1]; exact jD hg1
  have hb1 : Below w.heap.size w w1 := by rw [hw1]; exact iF (Below.refl _ _) _
  rw [← hw1, ← hg1]
  have HG1 := iC.mk hg1
  have HX1 := iC.mk hX1
  have HB01 := iC.mk hb1
  have HY := iC.mk (And.intro y0 (And.intro y1 (And.intro y2 (And.intro y3 (And.intro y4 y5)))))
  clear hw1 hg1 y0 y1 y2 y5
  have hh1 := zN A3 c3 b.nodes x w1 (Kd.C_below HC3.out hb1) (by rw [HN3.out]; exact hl3) (by rw [HN3.out]; omega)
  rw [HN3.out] at hh1
  go_at_call 96
  refine hh1.mono ?_
  rintro e w2 ⟨rfl, hb2⟩
  have HB2 := iC.mk (iQ hb1 hb2)
  have HB12 := iC.mk hb2
  have hX2 := iV hb2 hX1
  have u3 := (iD hX2 3).trans (show _ = some (Value.slice A3 N3 c3) from rfl)
  have u4 := (iD hX2 4).trans (show _ = some (Value.slice A4 N4 c4) from rfl)
  have d0 := jI HB2.out c0
  have d3 := jI HB2.out y3
  have d4 := jI HB2.out y4
  have HX2 := iC.mk hX2
  clear hh1 hb1 hb2 hX1 hX2 c0 y3 y4
  by_cases hxn : x ∈ b.nodes
  · have hh2 := zN A4 c4 b.said x w2 (Kd.C_below HC4.out HB2.out) (by rw [HN4.out]; exact hl4) (by rw [HN4.out]; omega)
    rw [HN4.out] at hh2
    rw [decide_eq_true hxn]
    go_wp2_with fail
    go_at_call 96
    refine hh2.mono ?_
    rintro e w3 ⟨rfl, hb3⟩
    have HB3 := iC.mk (iQ HB2.out hb3)
    have HX3 := iC.mk (iV hb3 HX2.out)
    have t0 := jI hb3 d0
    have t3 := jI hb3 d3
    have t4 := jI hb3 d4
    have s3 := jI hb3 u3
    have s4 := jI hb3 u4
    clear hh2 HB2 HX2 d0 d3 d4 u3 u4
    by_cases hxs : x ∈ b.said
    · rw [decide_eq_true hxs]
      have hsay : b.say x = b := by unfold CB.say; rw [if_neg (fun hh => hh.2 hxs)]
      have HS := iC.mk hsay
      have hbl := HB3.out
      go_upto_region 8 with fail
      refine jQ (n := 20) (S := fun w' => w'.cell? ⟨rc, 0, none⟩ = some (.slice (some ⟨g, 0, none⟩) NL q) ∧ w'.cell? ⟨g, k * 6 + 3, none⟩ = some (.slice A3 N3 c3) ∧ w'.cell? ⟨g, k * 6 + 4, none⟩ = some (.slice A4 N4 c4)) (ds := []) #[false, false, false, false, false, false, false, false, false, false, false, false, false, false, false, false, false, false, false, false] (by kernel_rfl) rfl rfl ⟨t0, t3, t4⟩ (fun hHeld => ?_)
      refine jE (T := (true, [([], []), ([0], [0]), ([1], [1]), ([2], [2]), ([], []), ([3, 4], [3, 4]), ([5], [5]), ([6], [6]), ([7], [7]), ([], []), ([9], [9]), ([10], [10]), ([11], [11]), ([], []), ([12, 13], [12, 13]), ([14], [14]), ([15], [15]), ([16], [16]), ([8, 17], [8, 17]), ([18, 0, 1, 2, 3, 4, 5, 6, 7, 8, 9, 10, 11, 12, 13, 14, 15, 16, 17, 18], [18])])) (B := [0, 1, 3, 7, 0, 31, 63, 127, 255, 0, 512, 1536, 3584, 0, 15872, 32256, 65024, 130560, 262143, 524287]) (by kernel_rfl) (by kernel_rfl) (fun HT_ HW_ => ?_)
      refine iM (i := 0) (N := some 44) (v := ?_) (a' := ?_) #[true, false, false, false, false, false, false, false, false, false, false, false, false, false, false, false, false, false, false, false] rfl rfl (iI HT_.out (by kernel_rfl)) (fun _ _ _ h => h) (Or.inl ⟨by rfl, ?_⟩) ?_ ?_
      rotate_left
      · intro w'
        go_simp
        with_reducible rfl
      rotate_left
      · simp only [Act.put, List.setIfInBounds_toArray, List.set_cons_zero, List.set_cons_succ, iJ, iK]
        rfl
      refine iM (i := 1) (N := some 45) (v := ?_) (a' := ?_) #[true, true, false, false, false, false, false, false, false, false, false, false, false, false, false, false, false, false, false, false] rfl rfl (iI HT_.out (by kernel_rfl)) (fun _ _ _ h => h) (Or.inl ⟨by rfl, ?_⟩) ?_ ?_
      rotate_left
      · intro w'
        go_simp
        with_reducible rfl
      rotate_left
      · simp only [Act.put, List.setIfInBounds_toArray, List.set_cons_zero, List.set_cons_succ, iJ, iK]
        rfl
      refine iM (i := 2) (N := some 46) (v := ?_) (a' := ?_) #[true, true, true, false, false, false, false, false, false, false, false, false, false, false, false, false, false, false, false, false] rfl rfl (iI HT_.out (by kernel_rfl)) (fun _ _ _ h => h) (Or.inl ⟨by rfl, ?_⟩) ?_ ?_
      rotate_left
      · intro w'
        go_simp
        with_reducible rfl
      rotate_left
      · simp only [Act.put, List.setIfInBounds_toArray, List.set_cons_zero, List.set_cons_succ, iJ, iK]
        rfl
      refine iM (i := 4) (N := some 48) (v := ?_) (a' := ?_) #[true, true, true, false, true, false, false, false, false, false, false, false, false, false, false, false, false, false, false, false] rfl rfl (iI HT_.out (by kernel_rfl)) (fun _ _ _ h => h) (Or.inl ⟨by rfl, ?_⟩) ?_ ?_
      rotate_left
      · intro w'
        go_simp
        with_reducible rfl
      rotate_left
      · simp only [Act.put, List.setIfInBounds_toArray, List.set_cons_zero, List.set_cons_succ, iJ, iK]
        rfl
      refine iM (i := 9) (N := some 53) (v := ?_) (a' := ?_) #[true, true, true, false, true, false, false, false, false, true, false, false, false, false, false, false, false, false, false, false] rfl rfl (iI HT_.out (by kernel_rfl)) (fun _ _ _ h => h) (Or.inl ⟨by rfl, ?_⟩) ?_ ?_
      rotate_left
      · intro w'
        go_simp
        with_reducible rfl
      rotate_left
      · simp only [Act.put, List.setIfInBounds_toArray, List.set_cons_zero, List.set_cons_succ, iJ, iK]
        rfl
      refine iM (i := 10) (N := some 54) (v := ?_) (a' := ?_) #[true, true, true, false, true, false, false, false, false, true, true, false, false, false, false, false, false, false, false, false] rfl rfl (iI HT_.out (by kernel_rfl)) (fun _ _ _ h => h) (Or.inl ⟨by rfl, ?_⟩) ?_ ?_
      rotate_left
      · intro w'
        go_simp
        with_reducible rfl
      rotate_left
      · simp only [Act.put, List.setIfInBounds_toArray, List.set_cons_zero, List.set_cons_succ, iJ, iK]
        rfl
      refine iM (i := 11) (N := some 55) (v := ?_) (a' := ?_) #[true, true, true, false, true, false, false, false, false, true, true, true, false, false, false, false, false, false, false, false] rfl rfl (iI HT_.out (by kernel_rfl)) (fun _ _ _ h => h) (Or.inl ⟨by rfl, ?_⟩) ?_ ?_
      rotate_left
      · intro w'
        go_simp
        with_reducible rfl
      rotate_left
      · simp only [Act.put, List.setIfInBounds_toArray, List.set_cons_zero, List.set_cons_succ, iJ, iK]
        rfl
      refine iM (i := 13) (N := some 57) (v := ?_) (a' := ?_) #[true, true, true, false, true, false, false, false, false, true, true, true, false, true, false, false, false, false, false, false] rfl rfl (iI HT_.out (by kernel_rfl)) (fun _ _ _ h => h) (Or.inl ⟨by rfl, ?_⟩) ?_ ?_
      rotate_left
      · intro w'
        go_simp
        with_reducible rfl
      rotate_left
      · simp only [Act.put, List.setIfInBounds_toArray, List.set_cons_zero, List.set_cons_succ, iJ, iK]
        rfl
      refine jH (i := 3) (N := some 47) (v := ?_) (a' := ?_) #[true, true, true, true, true, false, false, false, false, true, true, true, false, true, false, false, false, false, false, false] rfl rfl (iT HT_.out HW_.out (by kernel_rfl)) (fun _ _ _ h => h) (Or.inl ⟨by rfl, ?_⟩) hHeld ?_ ?_
      rotate_left
      · rintro w' ⟨s0, s1, s2⟩
        go_simp
        with_reducible rfl
      rotate_left
      · simp only [Act.put, List.setIfInBounds_toArray, List.set_cons_zero, List.set_cons_succ, iJ, iK]
        rfl
      refine iM (i := 5) (N := some 49) (v := ?_) (a' := ?_) #[true, true, true, true, true, true, false, false, false, true, true, true, false, true, false, false, false, false, false, false] rfl rfl (iI HT_.out (by kernel_rfl)) (fun _ _ _ h => h) (Or.inl ⟨by rfl, ?_⟩) ?_ ?_
      rotate_left
      · intro w'
        go_simp
        with_reducible rfl
      rotate_left
      · simp only [Act.put, List.setIfInBounds_toArray, List.set_cons_zero, List.set_cons_succ, iJ, iK]
        rfl
      refine iM (i := 6) (N := some 50) (v := ?_) (a' := ?_) #[true, true, true, true, true, true, true, false, false, true, true, true, false, true, false, false, false, false, false, false] rfl rfl (iI HT_.out (by kernel_rfl)) (fun _ _ _ h => h) (Or.inl ⟨by rfl, ?_⟩) ?_ ?_
      rotate_left
      · intro w'
        go_simp
        with_reducible rfl
      rotate_left
      · simp only [Act.put, List.setIfInBounds_toArray, List.set_cons_zero, List.set_cons_succ, iJ, iK]
        rfl
      refine jH (i := 7) (N := some 51) (v := ?_) (a' := ?_) #[true, true, true, true, true, true, true, true, false, true, true, true, false, true, false, false, false, false, false, false] rfl rfl (iT HT_.out HW_.out (by kernel_rfl)) (fun _ _ _ h => h) (Or.inl ⟨by rfl, ?_⟩) hHeld ?_ ?_
      rotate_left
      · rintro w' ⟨s0, s1, s2⟩
        go_simp
        with_reducible rfl
      rotate_left
      · simp only [Act.put, List.setIfInBounds_toArray, List.set_cons_zero, List.set_cons_succ, iJ, iK]
        rfl
      refine iM (i := 8) (N := some 52) (v := ?_) (a' := ?_) #[true, true, true, true, true, true, true, true, true, true, true, true, false, true, false, false, false, false, false, false] rfl rfl (iI HT_.out (by kernel_rfl)) (fun _ _ _ h => h) (Or.inl ⟨by rfl, ?_⟩) ?_ ?_
      rotate_left
      · intro w'
        go_simp
        with_reducible rfl
      rotate_left
      · simp only [Act.put, List.setIfInBounds_toArray, List.set_cons_zero, List.set_cons_succ, iJ, iK]
        rfl
      refine jH (i := 12) (N := some 56) (v := ?_) (a' := ?_) #[true, true, true, true, true, true, true, true, true, true, true, true, true, true, false, false, false, false, false, false] rfl rfl (iT HT_.out HW_.out (by kernel_rfl)) (fun _ _ _ h => h) (Or.inl ⟨by rfl, ?_⟩) hHeld ?_ ?_
      rotate_left
      · rintro w' ⟨s0, s1, s2⟩
        go_simp
        with_reducible rfl
      rotate_left
      · simp only [Act.put, List.setIfInBounds_toArray, List.set_cons_zero, List.set_cons_succ, iJ, iK]
        rfl
      refine iM (i := 14) (N := some 58) (v := ?_) (a' := ?_) #[true, true, true, true, true, true, true, true, true, true, true, true, true, true, true, false, false, false, false, false] rfl rfl (iI HT_.out (by kernel_rfl)) (fun _ _ _ h => h) (Or.inl ⟨by rfl, ?_⟩) ?_ ?_
      rotate_left
      · intro w'
        go_simp
        with_reducible rfl
      rotate_left
      · simp only [Act.put, List.setIfInBounds_toArray, List.set_cons_zero, List.set_cons_succ, iJ, iK]
        rfl
      refine iM (i := 15) (N := some 59) (v := ?_) (a' := ?_) #[true, true, true, true, true, true, true, true, true, true, true, true, true, true, true, true, false, false, false, false] rfl rfl (iI HT_.out (by kernel_rfl)) (fun _ _ _ h => h) (Or.inl ⟨by rfl, ?_⟩) ?_ ?_
      rotate_left
      · intro w'
        go_simp
        with_reducible rfl
      rotate_left
      · simp only [Act.put, List.setIfInBounds_toArray, List.set_cons_zero, List.set_cons_succ, iJ, iK]
        rfl
      refine jH (i := 16) (N := some 60) (v := ?_) (a' := ?_) #[true, true, true, true, true, true, true, true, true, true, true, true, true, true, true, true, true, false, false, false] rfl rfl (iT HT_.out HW_.out (by kernel_rfl)) (fun _ _ _ h => h) (Or.inl ⟨by rfl, ?_⟩) hHeld ?_ ?_
      rotate_left
      · rintro w' ⟨s0, s1, s2⟩
        go_simp
        with_reducible rfl
      rotate_left
      · simp only [Act.put, List.setIfInBounds_toArray, List.set_cons_zero, List.set_cons_succ, iJ, iK]
        rfl
      refine iM (i := 17) (N := some 61) (v := ?_) (a' := ?_) #[true, true, true, true, true, true, true, true, true, true, true, true, true, true, true, true, true, true, false, false] rfl rfl (iI HT_.out (by kernel_rfl)) (fun _ _ _ h => h) (Or.inl ⟨by rfl, ?_⟩) ?_ ?_
      rotate_left
      · intro w'
        go_simp
        with_reducible rfl
      rotate_left
      · simp only [Act.put, List.setIfInBounds_toArray, List.set_cons_zero, List.set_cons_succ, iJ, iK]
        rfl
      refine iM (i := 18) (N := some 62) (v := ?_) (a' := ?_) #[true, true, true, true, true, true, true, true, true, true, true, true, true, true, true, true, true, true, true, false] rfl rfl (iI HT_.out (by kernel_rfl)) (fun _ _ _ h => h) (Or.inl ⟨by rfl, ?_⟩) ?_ ?_
      rotate_left
      · intro w'
        go_simp
        with_reducible rfl
      rotate_left
      · simp only [Act.put, List.setIfInBounds_toArray, List.set_cons_zero, List.set_cons_succ, iJ, iK]
        rfl
      refine iM (i := 19) (N := some 6) (v := ?_) (a' := ?_) #[true, true, true, true, true, true, true, true, true, true, true, true, true, true, true, true, true, true, true, true] rfl rfl (iI HT_.out (by kernel_rfl)) (fun _ _ _ h => h) (Or.inl ⟨by rfl, ?_⟩) ?_ ?_
      rotate_left
      · intro w'
        go_simp
        with_reducible rfl
      rotate_left
      · simp only [Act.put, List.setIfInBounds_toArray, List.set_cons_zero, List.set_cons_succ, iJ, iK]
        rfl
      refine kP (jM HT_.out (by kernel_rfl)) ?_
      go_wp2
      go_ret
      have hb4 : Below w.heap.size w w3.drew := iP hbl
      refine ⟨?_, ?_, RoFr.of_below hb4 HH.out.Ble⟩
      · rw [← HN4.out, ← HN3.out]
        exact congrArg (fun z => Ending.returned (.bool z)) (by rw [Bool.eq_iff_iff, beq_iff_eq, decide_eq_true_eq]; omega)
      · rw [xE HK.out]
        exact HH.out.below hb4
    · rw [decide_eq_false hxs]
      have H13 := iC.mk (iQ HB12.out hb3)
      have hcs := Kd.C_below HC4.out HB3.out
      rw [HN4.out] at hcs
      have hsz1 := HB01.out.size
      clear hb3 t0 t3 t4 s3
      have hb13 := H13.out
      have hsz13 := H13.out.size
      go_wp2_with (first
        | (at_builtin; refine Kd.R_append_rows (Kd.int .i64) (w0 := w1) w1.heap.size rfl (.tmp 27) (.tmp 29) 25 3 (.int .i64 0) 8 rfl Try.underlying25 oO rfl (by decide) (by omega) (.slice none 0 0) [] b.said _ _ _ (fun _ => True) (fun _ => False) rfl rfl (Kd.R_nil _ _ _ _ _) hcs (fun _ _ h => h) (fun _ h => h.elim) (fun _ _ => trivial) hb13 hsz13 (by simp only [List.length_nil]; omega) ?_; intro v5 w4 ho4 hb4 hg4 _; rw [List.nil_append] at ho4; obtain ⟨A5, c5, rfl⟩ := Kd.R_slice ho4; rw [HN4.out] at ho4 ⊢; have hsz4 := hb4.size; clear hb13 hsz13)
        | (at_builtin; refine Kd.R_append (Kd.int .i64) (w0 := w1) w1.heap.size rfl (.tmp 31) (.tmp 33) 25 3 (.int .i64 0) 8 rfl Try.underlying25 oO rfl (by decide) (by omega) (.slice A5 N4 c5) b.said x [.int .i64 x] (fun _ => True) (fun _ => False) rfl rfl rfl (fun _ hk => hk.elim) (fun _ _ => trivial) ho4 hb4 hsz4 (by rw [HN4.out]; omega) ?_; intro v6 w5 ho5 hb5 hg5 _; obtain ⟨A6, c6, rfl⟩ := Kd.R_slice ho5; have HO5 := iC.mk ho5; have HB5 := iC.mk hb5; have hX5 := iV hb5 HX1.out; have e4 := (iD hX5 4).trans (show _ = some (Value.slice A4 N4 c4) from rfl); have f4 := iE hX5 4; have HX5 := iC.mk hX5; rw [show (b.said ++ [x]).length = N4 + 1 from by rw [List.length_append, HN4.out]; rfl]; clear ho4 hb4 hg4 ho5 hb5 hg5 hX5))
      obtain ⟨W6, hW6⟩ : ∃ W6, W6 = w5.setCell ⟨g1, 4, none⟩ (.slice A6 (N4 + 1) c6) := ⟨_, rfl⟩
      have hg6 := kM w5 g1 4 (.slice A6 (N4 + 1) c6)
      have hX6 : W6.heap[g1]? = some (.cells #[.int .u32 id, .int .u8 b.st, .int .u32 b.at_, .slice A3 N3 c3, .slice A6 (N4 + 1) c6, .bool b.ended] 130 (0, 0)) := by rw [hW6]; exact iZ HX5.out 4 _ rfl
      have hb6 : Below w.heap.size w W6 := by
        rw [hW6]
        exact (HB01.out.trans (HB5.out.mono hsz1)).grown hg6 (Nat.le_trans hsz1 HB5.out.size) (fun j hj => by cases hj; rw [HG1.out]; exact Nat.le_refl _)
      have hR6 : (Kd.int .i64).R 3 W6 w1.heap.size (fun _ => True) (.slice A6 (b.said ++ [x]).length c6) (b.said ++ [x]) := by rw [hW6]; exact Kd.R_set HO5.out HX5.out (by decide) 4 _
      rw [← hW6]
      have HR6 := iC.mk hR6
      have HB6 := iC.mk hb6
      have HX6 := iC.mk hX6
      have t0 := (iD (iV hb6 H1.out) 0).trans (show _ = some (Value.slice (some ⟨g, 0, none⟩) s.L.length q) from rfl)
      rw [HNL.out] at t0
      obtain ⟨inn, hown⟩ := Kd.R_own HB.out
      obtain ⟨cg, hcg⟩ := jZ hown g (by simp [Value.ownBlock])
      have hcg6 := iV hb6 hcg
      have p0 := (iD hX6 0).trans (show _ = some (Value.int .u32 id) from rfl)
      have p1 := (iD hX6 1).trans (show _ = some (Value.int .u8 b.st) from rfl)
      have p2 := (iD hX6 2).trans (show _ = some (Value.int .u32 b.at_) from rfl)
      have p3 := (iD hX6 3).trans (show _ = some (Value.slice A3 N3 c3) from rfl)
      have p4 := (iD hX6 4).trans (show _ = some (Value.slice A6 (N4 + 1) c6) from rfl)
      have p5 := (iD hX6 5).trans (show _ = some (Value.bool b.ended) from rfl)
      have q0 := jI hb6 HY.out.1
      have q1 := jI hb6 HY.out.2.1
      have q2 := jI hb6 HY.out.2.2.1
      have q3 := jI hb6 HY.out.2.2.2.1
      have q4 := jI hb6 HY.out.2.2.2.2.1
      have q5 := jI hb6 HY.out.2.2.2.2.2
      have z0 := iE hcg6 (k * 6)
      have z1 := iE hcg6 (k * 6 + 1)
      have z2 := iE hcg6 (k * 6 + 2)
      have z3 := iE hcg6 (k * 6 + 3)
      have z4 := iE hcg6 (k * 6 + 4)
      have z5 := iE hcg6 (k * 6 + 5)
      clear hW6 hg6 hX6 hb6 hR6 hown hcg hcg6 e4 f4 s4 hsz4
      refine jQ (n := 8) (S := fun w' => w'.cell? ⟨rc, 0, none⟩ = some (.slice (some ⟨g, 0, none⟩) NL q) ∧ w'.cell? ⟨g1, 0, none⟩ = some (.int .u32 id) ∧ w'.cell? ⟨g1, 1, none⟩ = some (.int .u8 b.st) ∧ w'.cell? ⟨g1, 2, none⟩ = some (.int .u32 b.at_) ∧ w'.cell? ⟨g1, 3, none⟩ = some (.slice A3 N3 c3) ∧ w'.cell? ⟨g1, 4, none⟩ = some (.slice A6 (N4 + 1) c6) ∧ w'.cell? ⟨g1, 5, none⟩ = some (.bool b.ended) ∧ w'.cell? ⟨g, k * 6, none⟩ = some (.int .u32 id) ∧ w'.cell? ⟨g, k * 6 + 1, none⟩ = some (.int .u8 b.st) ∧ w'.cell? ⟨g, k * 6 + 2, none⟩ = some (.int .u32 b.at_) ∧ w'.cell? ⟨g, k * 6 + 3, none⟩ = some (.slice A3 N3 c3) ∧ w'.cell? ⟨g, k * 6 + 4, none⟩ = some (.slice A4 N4 c4) ∧ w'.cell? ⟨g, k * 6 + 5, none⟩ = some (.bool b.ended) ∧ w'.frozen? ⟨g, k * 6, none⟩ = false ∧ w'.frozen? ⟨g, k * 6 + 1, none⟩ = false ∧ w'.frozen? ⟨g, k * 6 + 2, none⟩ = false ∧ w'.frozen? ⟨g, k * 6 + 3, none⟩ = false ∧ w'.frozen? ⟨g, k * 6 + 4, none⟩ = false ∧ w'.frozen? ⟨g, k * 6 + 5, none⟩ = false) (ds := [7]) #[false, false, false, false, false, false, false, false] (by kernel_rfl) rfl rfl ⟨t0, p0, p1, p2, p3, p4, p5, q0, q1, q2, q3, q4, q5, z0, z1, z2, z3, z4, z5⟩ (fun hHeld => ?_)
      refine jE (T := (true, [([], []), ([0], [0]), ([1], [1]), ([2], [2]), ([], []), ([], []), ([3, 4, 0, 1, 2, 3, 4, 5], [3, 4]), ([6, 5, 0, 1, 2, 3, 4, 5], [5, 6])])) (B := [0, 1, 3, 7, 0, 0, 63, 127]) (by kernel_rfl) (by kernel_rfl) (fun HT_ HW_ => ?_)
      refine iM (i := 0) (N := some 37) (v := ?_) (a' := ?_) #[true, false, false, false, false, false, false, false] rfl rfl (iI HT_.out (by kernel_rfl)) (fun _ _ _ h => h) (Or.inl ⟨by rfl, ?_⟩) ?_ ?_
      rotate_left
      · intro w'
        go_simp
        with_reducible rfl
      rotate_left
      · simp only [Act.put, List.setIfInBounds_toArray, List.set_cons_zero, List.set_cons_succ, iJ, iK]
        rfl
      refine iM (i := 1) (N := some 38) (v := ?_) (a' := ?_) #[true, true, false, false, false, false, false, false] rfl rfl (iI HT_.out (by kernel_rfl)) (fun _ _ _ h => h) (Or.inl ⟨by rfl, ?_⟩) ?_ ?_
      rotate_left
      · intro w'
        go_simp
        with_reducible rfl
      rotate_left
      · simp only [Act.put, List.setIfInBounds_toArray, List.set_cons_zero, List.set_cons_succ, iJ, iK]
        rfl
      refine iM (i := 2) (N := some 39) (v := ?_) (a' := ?_) #[true, true, true, false, false, false, false, false] rfl rfl (iI HT_.out (by kernel_rfl)) (fun _ _ _ h => h) (Or.inl ⟨by rfl, ?_⟩) ?_ ?_
      rotate_left
      · intro w'
        go_simp
        with_reducible rfl
      rotate_left
      · simp only [Act.put, List.setIfInBounds_toArray, List.set_cons_zero, List.set_cons_succ, iJ, iK]
        rfl
      refine iM (i := 4) (N := some 41) (v := ?_) (a' := ?_) #[true, true, true, false, true, false, false, false] rfl rfl (iI HT_.out (by kernel_rfl)) (fun _ _ _ h => h) (Or.inl ⟨by rfl, ?_⟩) ?_ ?_
      rotate_left
      · intro w'
        go_simp
        with_reducible rfl
      rotate_left
      · simp only [Act.put, List.setIfInBounds_toArray, List.set_cons_zero, List.set_cons_succ, iJ, iK]
        rfl
      refine jH (i := 3) (N := some 40) (v := ?_) (a' := ?_) #[true, true, true, true, true, false, false, false] rfl rfl (iT HT_.out HW_.out (by kernel_rfl)) (fun _ _ _ h => h) (Or.inl ⟨by rfl, ?_⟩) hHeld ?_ ?_
      rotate_left
      · rintro w' ⟨s0, s1, s2, s3, s4, s5, s6, s7, s8, s9, s10, s11, s12, s13, s14, s15, s16, s17, s18⟩
        go_simp
        with_reducible rfl
      rotate_left
      · simp only [Act.put, List.setIfInBounds_toArray, List.set_cons_zero, List.set_cons_succ, iJ, iK]
        rfl
      refine jH (i := 5) (N := some 42) (v := ?_) (a' := ?_) #[true, true, true, true, true, true, false, false] rfl rfl (iT HT_.out HW_.out (by kernel_rfl)) (fun _ _ _ h => h) (Or.inl ⟨by rfl, ?_⟩) hHeld ?_ ?_
      rotate_left
      · rintro w' ⟨s0, s1, s2, s3, s4, s5, s6, s7, s8, s9, s10, s11, s12, s13, s14, s15, s16, s17, s18⟩
        go_simp
        with_reducible rfl
      rotate_left
      · simp only [Act.put, List.setIfInBounds_toArray, List.set_cons_zero, List.set_cons_succ, iJ, iK]
        rfl
      refine iM (i := 6) (N := some 43) (v := ?_) (a' := ?_) #[true, true, true, true, true, true, true, false] rfl rfl (iI HT_.out (by kernel_rfl)) (fun _ _ _ h => h) (Or.inl ⟨by rfl, ?_⟩) ?_ ?_
      rotate_left
      · intro w'
        go_simp
        with_reducible rfl
      rotate_left
      · simp only [Act.put, List.setIfInBounds_toArray, List.set_cons_zero, List.set_cons_succ, iJ, iK]
        rfl
      refine mQ (i := 7) (N := none) #[true, true, true, true, true, true, true, true] rfl rfl (jK HT_.out (by kernel_rfl)) (by decide) (fun K hK => ?_)
      refine mX (w1 := ?_) (by rfl) rfl ?_ ?_
      rotate_left
      · go_simp
        rfl
      refine hK.out _ _ ?_
      clear hK K
      refine kP (jM HT_.out (by kernel_rfl)) ?_
      have hlen : (b.said ++ [x]).length = N4 + 1 := by rw [List.length_append, HN4.out]; rfl
      have hsay : b.say x = ⟨b.st, b.at_, b.nodes, b.said ++ [x], b.ended⟩ := by unfold CB.say; rw [if_pos ⟨hxn, hxs⟩]
      have hgw : g < w.heap.size := by
        obtain ⟨inn, hown⟩ := Kd.R_own HB.out
        obtain ⟨cg, hcg⟩ := jZ hown g (by simp [Value.ownBlock])
        exact jJ hcg
      have hput := (HH.out.below HB6.out).put HK.out (iV HB6.out H1.out) (id, ⟨b.st, b.at_, b.nodes, b.said ++ [x], b.ended⟩) (v3 := .slice A3 b.nodes.length c3) (v4 := .slice A6 (b.said ++ [x]).length c6) (Kd.R_below HR3.out HB6.out)
        (Kd.R_lower (Kd.R_mono (Kd.R_bound HR6.out) (fun j hj => by have := hj.2.1; omega)) (Nat.le_trans HH.out.Ble hsz1)) (by have := HH.out.sd.set HK.out x; rw [hsay] at this; exact this)
      have hb7 := hput.2
      have h7 := hput.1
      rw [hlen, HN3.out] at h7 hb7
      obtain ⟨W7, hW7⟩ : ∃ W7, W7 = W6.setCells g (k * 6) [.int .u32 id, .int .u8 b.st, .int .u32 b.at_, .slice A3 N3 c3, .slice A6 (N4 + 1) c6, .bool b.ended] := ⟨_, rfl⟩
      have hn7 : (((((W6.setCell ⟨g, k * 6, none⟩ (.int .u32 id)).setCell ⟨g, k * 6 + 1, none⟩ (.int .u8 b.st)).setCell ⟨g, k * 6 + 2, none⟩ (.int .u32 b.at_)).setCell ⟨g, k * 6 + 3, none⟩ (.slice A3 N3 c3)).setCell ⟨g, k * 6 + 4, none⟩ (.slice A6 (N4 + 1) c6)).setCell ⟨g, k * 6 + 5, none⟩ (.bool b.ended) = W7 := by rw [hW7]; rfl
      have H7 : Ro W7 B rc (s.withL (s.L.set k (id, ⟨b.st, b.at_, b.nodes, b.said ++ [x], b.ended⟩))) := by rw [hW7]; exact h7
      have HF7 : RoFr B w W7 := (RoFr.of_below HB6.out HH.out.Ble).trans (by rw [hW7]; exact hb7)
      obtain ⟨g', q', A'', k'', b1, _, _, w3', w4', s3', s4', _, _, _, u3, u4, _, _⟩ := H7.get (k := k) (p := (id, ⟨b.st, b.at_, b.nodes, b.said ++ [x], b.ended⟩)) (show (s.L.set k _)[k]? = _ from List.getElem?_set_self (by rw [HNL.out]; exact hlt))
      obtain ⟨A8, c8, rfl, _, _⟩ := oD s3'
      obtain ⟨A9, c9, rfl, _, _⟩ := oD s4'
      have t0 := (iD b1 0).trans (show _ = some (Value.slice (some ⟨g', 0, none⟩) (s.L.set k (id, ⟨b.st, b.at_, b.nodes, b.said ++ [x], b.ended⟩)).length q') from rfl)
      simp only at u3 u4
      rw [hlen] at u4
      rw [HN3.out] at u3
      rw [List.length_set, HNL.out] at t0
      rw [hn7]
      have HP := iC.mk (And.intro H7 (And.intro HF7 (And.intro hsay hlen)))
      clear hput hb7 h7 hW7 hn7 H7 HF7 b1 s3' s4' hsay hlen HT_ HW_ hHeld HX6 HR6 HB6 HX5 HB5 HO5 HX1 HX3 HY HC4 HC3 hcs p0 p1 p2 p3 p4 p5 q0 q1 q2 q3 q4 q5 z0 z1 z2 z3 z4 z5
      go_upto_region 8 with fail
      refine jQ (n := 20) (S := fun w' => w'.cell? ⟨rc, 0, none⟩ = some (.slice (some ⟨g', 0, none⟩) NL q') ∧ w'.cell? ⟨g', k * 6 + 3, none⟩ = some (.slice A8 N3 c8) ∧ w'.cell? ⟨g', k * 6 + 4, none⟩ = some (.slice A9 (N4 + 1) c9)) (ds := []) #[false, false, false, false, false, false, false, false, false, false, false, false, false, false, false, false, false, false, false, false] (by kernel_rfl) rfl rfl ⟨t0, u3, u4⟩ (fun hHeld => ?_)
      refine jE (T := (true, [([], []), ([0], [0]), ([1], [1]), ([2], [2]), ([], []), ([3, 4], [3, 4]), ([5], [5]), ([6], [6]), ([7], [7]), ([], []), ([9], [9]), ([10], [10]), ([11], [11]), ([], []), ([12, 13], [12, 13]), ([14], [14]), ([15], [15]), ([16], [16]), ([8, 17], [8, 17]), ([18, 0, 1, 2, 3, 4, 5, 6, 7, 8, 9, 10, 11, 12, 13, 14, 15, 16, 17, 18], [18])])) (B := [0, 1, 3, 7, 0, 31, 63, 127, 255, 0, 512, 1536, 3584, 0, 15872, 32256, 65024, 130560, 262143, 524287]) (by kernel_rfl) (by kernel_rfl) (fun HT_ HW_ => ?_)
      refine iM (i := 0) (N := some 44) (v := ?_) (a' := ?_) #[true, false, false, false, false, false, false, false, false, false, false, false, false, false, false, false, false, false, false, false] rfl rfl (iI HT_.out (by kernel_rfl)) (fun _ _ _ h => h) (Or.inl ⟨by rfl, ?_⟩) ?_ ?_
      rotate_left
      · intro w'
        go_simp
        with_reducible rfl
      rotate_left
      · simp only [Act.put, List.setIfInBounds_toArray, List.set_cons_zero, List.set_cons_succ, iJ, iK]
        rfl
      refine iM (i := 1) (N := some 45) (v := ?_) (a' := ?_) #[true, true, false, false, false, false, false, false, false, false, false, false, false, false, false, false, false, false, false, false] rfl rfl (iI HT_.out (by kernel_rfl)) (fun _ _ _ h => h) (Or.inl ⟨by rfl, ?_⟩) ?_ ?_
      rotate_left
      · intro w'
        go_simp
        with_reducible rfl
      rotate_left
      · simp only [Act.put, List.setIfInBounds_toArray, List.set_cons_zero, List.set_cons_succ, iJ, iK]
        rfl
      refine iM (i := 2) (N := some 46) (v := ?_) (a' := ?_) #[true, true, true, false, false, false, false, false, false, false, false, false, false, false, false, false, false, false, false, false] rfl rfl (iI HT_.out (by kernel_rfl)) (fun _ _ _ h => h) (Or.inl ⟨by rfl, ?_⟩) ?_ ?_
      rotate_left
      · intro w'
        go_simp
        with_reducible rfl
      rotate_left
      · simp only [Act.put, List.setIfInBounds_toArray, List.set_cons_zero, List.set_cons_succ, iJ, iK]
        rfl
      refine iM (i := 4) (N := some 48) (v := ?_) (a' := ?_) #[true, true, true, false, true, false, false, false, false, false, false, false, false, false, false, false, false, false, false, false] rfl rfl (iI HT_.out (by kernel_rfl)) (fun _ _ _ h => h) (Or.inl ⟨by rfl, ?_⟩) ?_ ?_
      rotate_left
      · intro w'
        go_simp
        with_reducible rfl
      rotate_left
      · simp only [Act.put, List.setIfInBounds_toArray, List.set_cons_zero, List.set_cons_succ, iJ, iK]
        rfl
      refine iM (i := 9) (N := some 53) (v := ?_) (a' := ?_) #[true, true, true, false, true, false, false, false, false, true, false, false, false, false, false, false, false, false, false, false] rfl rfl (iI HT_.out (by kernel_rfl)) (fun _ _ _ h => h) (Or.inl ⟨by rfl, ?_⟩) ?_ ?_
      rotate_left
      · intro w'
        go_simp
        with_reducible rfl
      rotate_left
      · simp only [Act.put, List.setIfInBounds_toArray, List.set_cons_zero, List.set_cons_succ, iJ, iK]
        rfl
      refine iM (i := 10) (N := some 54) (v := ?_) (a' := ?_) #[true, true, true, false, true, false, false, false, false, true, true, false, false, false, false, false, false, false, false, false] rfl rfl (iI HT_.out (by kernel_rfl)) (fun _ _ _ h => h) (Or.inl ⟨by rfl, ?_⟩) ?_ ?_
      rotate_left
      · intro w'
        go_simp
        with_reducible rfl
      rotate_left
      · simp only [Act.put, List.setIfInBounds_toArray, List.set_cons_zero, List.set_cons_succ, iJ, iK]
        rfl
      refine iM (i := 11) (N := some 55) (v := ?_) (a' := ?_) #[true, true, true, false, true, false, false, false, false, true, true, true, false, false, false, false, false, false, false, false] rfl rfl (iI HT_.out (by kernel_rfl)) (fun _ _ _ h => h) (Or.inl ⟨by rfl, ?_⟩) ?_ ?_
      rotate_left
      · intro w'
        go_simp
        with_reducible rfl
      rotate_left
      · simp only [Act.put, List.setIfInBounds_toArray, List.set_cons_zero, List.set_cons_succ, iJ, iK]
        rfl
      refine iM (i := 13) (N := some 57) (v := ?_) (a' := ?_) #[true, true, true, false, true, false, false, false, false, true, true, true, false, true, false, false, false, false, false, false] rfl rfl (iI HT_.out (by kernel_rfl)) (fun _ _ _ h => h) (Or.inl ⟨by rfl, ?_⟩) ?_ ?_
      rotate_left
      · intro w'
        go_simp
        with_reducible rfl
      rotate_left
      · simp only [Act.put, List.setIfInBounds_toArray, List.set_cons_zero, List.set_cons_succ, iJ, iK]
        rfl
      refine jH (i := 3) (N := some 47) (v := ?_) (a' := ?_) #[true, true, true, true, true, false, false, false, false, true, true, true, false, true, false, false, false, false, false, false] rfl rfl (iT HT_.out HW_.out (by kernel_rfl)) (fun _ _ _ h => h) (Or.inl ⟨by rfl, ?_⟩) hHeld ?_ ?_
      rotate_left
      · rintro w' ⟨s0, s1, s2⟩
        go_simp
        with_reducible rfl
      rotate_left
      · simp only [Act.put, List.setIfInBounds_toArray, List.set_cons_zero, List.set_cons_succ, iJ, iK]
        rfl
      refine iM (i := 5) (N := some 49) (v := ?_) (a' := ?_) #[true, true, true, true, true, true, false, false, false, true, true, true, false, true, false, false, false, false, false, false] rfl rfl (iI HT_.out (by kernel_rfl)) (fun _ _ _ h => h) (Or.inl ⟨by rfl, ?_⟩) ?_ ?_
      rotate_left
      · intro w'
        go_simp
        with_reducible rfl
      rotate_left
      · simp only [Act.put, List.setIfInBounds_toArray, List.set_cons_zero, List.set_cons_succ, iJ, iK]
        rfl
      refine iM (i := 6) (N := some 50) (v := ?_) (a' := ?_) #[true, true, true, true, true, true, true, false, false, true, true, true, false, true, false, false, false, false, false, false] rfl rfl (iI HT_.out (by kernel_rfl)) (fun _ _ _ h => h) (Or.inl ⟨by rfl, ?_⟩) ?_ ?_
      rotate_left
      · intro w'
        go_simp
        with_reducible rfl
      rotate_left
      · simp only [Act.put, List.setIfInBounds_toArray, List.set_cons_zero, List.set_cons_succ, iJ, iK]
        rfl
      refine jH (i := 7) (N := some 51) (v := ?_) (a' := ?_) #[true, true, true, true, true, true, true, true, false, true, true, true, false, true, false, false, false, false, false, false] rfl rfl (iT HT_.out HW_.out (by kernel_rfl)) (fun _ _ _ h => h) (Or.inl ⟨by rfl, ?_⟩) hHeld ?_ ?_
      rotate_left
      · rintro w' ⟨s0, s1, s2⟩
        go_simp
        with_reducible rfl
      rotate_left
      · simp only [Act.put, List.setIfInBounds_toArray, List.set_cons_zero, List.set_cons_succ, iJ, iK]
        rfl
      refine iM (i := 8) (N := some 52) (v := ?_) (a' := ?_) #[true, true, true, true, true, true, true, true, true, true, true, true, false, true, false, false, false, false, false, false] rfl rfl (iI HT_.out (by kernel_rfl)) (fun _ _ _ h => h) (Or.inl ⟨by rfl, ?_⟩) ?_ ?_
      rotate_left
      · intro w'
        go_simp
        with_reducible rfl
      rotate_left
      · simp only [Act.put, List.setIfInBounds_toArray, List.set_cons_zero, List.set_cons_succ, iJ, iK]
        rfl
      refine jH (i := 12) (N := some 56) (v := ?_) (a' := ?_) #[true, true, true, true, true, true, true, true, true, true, true, true, true, true, false, false, false, false, false, false] rfl rfl (iT HT_.out HW_.out (by kernel_rfl)) (fun _ _ _ h => h) (Or.inl ⟨by rfl, ?_⟩) hHeld ?_ ?_
      rotate_left
      · rintro w' ⟨s0, s1, s2⟩
        go_simp
        with_reducible rfl
      rotate_left
      · simp only [Act.put, List.setIfInBounds_toArray, List.set_cons_zero, List.set_cons_succ, iJ, iK]
        rfl
      refine iM (i := 14) (N := some 58) (v := ?_) (a' := ?_) #[true, true, true, true, true, true, true, true, true, true, true, true, true, true, true, false, false, false, false, false] rfl rfl (iI HT_.out (by kernel_rfl)) (fun _ _ _ h => h) (Or.inl ⟨by rfl, ?_⟩) ?_ ?_
      rotate_left
      · intro w'
        go_simp
        with_reducible rfl
      rotate_left
      · simp only [Act.put, List.setIfInBounds_toArray, List.set_cons_zero, List.set_cons_succ, iJ, iK]
        rfl
      refine iM (i := 15) (N := some 59) (v := ?_) (a' := ?_) #[true, true, true, true, true, true, true, true, true, true, true, true, true, true, true, true, false, false, false, false] rfl rfl (iI HT_.out (by kernel_rfl)) (fun _ _ _ h => h) (Or.inl ⟨by rfl, ?_⟩) ?_ ?_
      rotate_left
      · intro w'
        go_simp
        with_reducible rfl
      rotate_left
      · simp only [Act.put, List.setIfInBounds_toArray, List.set_cons_zero, List.set_cons_succ, iJ, iK]
        rfl
      refine jH (i := 16) (N := some 60) (v := ?_) (a' := ?_) #[true, true, true, true, true, true, true, true, true, true, true, true, true, true, true, true, true, false, false, false] rfl rfl (iT HT_.out HW_.out (by kernel_rfl)) (fun _ _ _ h => h) (Or.inl ⟨by rfl, ?_⟩) hHeld ?_ ?_
      rotate_left
      · rintro w' ⟨s0, s1, s2⟩
        go_simp
        with_reducible rfl
      rotate_left
      · simp only [Act.put, List.setIfInBounds_toArray, List.set_cons_zero, List.set_cons_succ, iJ, iK]
        rfl
      refine iM (i := 17) (N := some 61) (v := ?_) (a' := ?_) #[true, true, true, true, true, true, true, true, true, true, true, true, true, true, true, true, true, true, false, false] rfl rfl (iI HT_.out (by kernel_rfl)) (fun _ _ _ h => h) (Or.inl ⟨by rfl, ?_⟩) ?_ ?_
      rotate_left
      · intro w'
        go_simp
        with_reducible rfl
      rotate_left
      · simp only [Act.put, List.setIfInBounds_toArray, List.set_cons_zero, List.set_cons_succ, iJ, iK]
        rfl
      refine iM (i := 18) (N := some 62) (v := ?_) (a' := ?_) #[true, true, true, true, true, true, true, true, true, true, true, true, true, true, true, true, true, true, true, false] rfl rfl (iI HT_.out (by kernel_rfl)) (fun _ _ _ h => h) (Or.inl ⟨by rfl, ?_⟩) ?_ ?_
      rotate_left
      · intro w'
        go_simp
        with_reducible rfl
      rotate_left
      · simp only [Act.put, List.setIfInBounds_toArray, List.set_cons_zero, List.set_cons_succ, iJ, iK]
        rfl
      refine iM (i := 19) (N := some 6) (v := ?_) (a' := ?_) #[true, true, true, true, true, true, true, true, true, true, true, true, true, true, true, true, true, true, true, true] rfl rfl (iI HT_.out (by kernel_rfl)) (fun _ _ _ h => h) (Or.inl ⟨by rfl, ?_⟩) ?_ ?_
      rotate_left
      · intro w'
        go_simp
        with_reducible rfl
      rotate_left
      · simp only [Act.put, List.setIfInBounds_toArray, List.set_cons_zero, List.set_cons_succ, iJ, iK]
        rfl
      refine kP (jM HT_.out (by kernel_rfl)) ?_
      go_wp2
      go_ret
      refine ⟨?_, ?_, ?_⟩
      · rw [HP.out.2.2.1]
        show Ending.returned (.bool (((N4 + 1 : Nat) : Int) == (N3 : Int))) = _
        refine congrArg (fun z => Ending.returned (.bool z)) ?_
        rw [HP.out.2.2.2, HN3.out, Bool.eq_iff_iff, beq_iff_eq, decide_eq_true_eq]; omega
      · rw [HP.out.2.2.1]
        exact HP.out.1.below (iP (iP (Below.refl _ _)))
      · exact HP.out.2.1.trans (RoFr.of_below (iP (iP (Below.refl _ _))) HP.out.1.Ble)
  · rw [decide_eq_false hxn]
    have hsay : b.say x = b := by unfold CB.say; rw [if_neg (fun hh => hxn hh.1)]
    have HS := iC.mk hsay
    have hbl := HB2.out
    go_upto_region 8 with fail
    refine jQ (n := 20) (S := fun w' => w'.cell? ⟨rc, 0, none⟩ = some (.slice (some ⟨g, 0, none⟩) NL q) ∧ w'.cell? ⟨g, k * 6 + 3, none⟩ = some (.slice A3 N3 c3) ∧ w'.cell? ⟨g, k * 6 + 4, none⟩ = some (.slice A4 N4 c4)) (ds := []) #[false, false, false, false, false, false, false, false, false, false, false, false, false, false, false, false, false, false, false, false] (by kernel_rfl) rfl rfl ⟨d0, d3, d4⟩ (fun hHeld => ?_)
    refine jE (T := (true, [([], []), ([0], [0]), ([1], [1]), ([2], [2]), ([], []), ([3, 4], [3, 4]), ([5], [5]), ([6], [6]), ([7], [7]), ([], []), ([9], [9]), ([10], [10]), ([11], [11]), ([], []), ([12, 13], [12, 13]), ([14], [14]), ([15], [15]), ([16], [16]), ([8, 17], [8, 17]), ([18, 0, 1, 2, 3, 4, 5, 6, 7, 8, 9, 10, 11, 12, 13, 14, 15, 16, 17, 18], [18])])) (B := [0, 1, 3, 7, 0, 31, 63, 127, 255, 0, 512, 1536, 3584, 0, 15872, 32256, 65024, 130560, 262143, 524287]) (by kernel_rfl) (by kernel_rfl) (fun HT_ HW_ => ?_)
    refine iM (i := 0) (N := some 44) (v := ?_) (a' := ?_) #[true, false, false, false, false, false, false, false, false, false, false, false, false, false, false, false, false, false, false, false] rfl rfl (iI HT_.out (by kernel_rfl)) (fun _ _ _ h => h) (Or.inl ⟨by rfl, ?_⟩) ?_ ?_
    rotate_left
    · intro w'
      go_simp
      with_reducible rfl
    rotate_left
    · simp only [Act.put, List.setIfInBounds_toArray, List.set_cons_zero, List.set_cons_succ, iJ, iK]
      rfl
    refine iM (i := 1) (N := some 45) (v := ?_) (a' := ?_) #[true, true, false, false, false, false, false, false, false, false, false, false, false, false, false, false, false, false, false, false] rfl rfl (iI HT_.out (by kernel_rfl)) (fun _ _ _ h => h) (Or.inl ⟨by rfl, ?_⟩) ?_ ?_
    rotate_left
    · intro w'
      go_simp
      with_reducible rfl
    rotate_left
    · simp only [Act.put, List.setIfInBounds_toArray, List.set_cons_zero, List.set_cons_succ, iJ, iK]
      rfl
    refine iM (i := 2) (N := some 46) (v := ?_) (a' := ?_) #[true, true, true, false, false, false, false, false, false, false, false, false, false, false, false, false, false, false, false, false] rfl rfl (iI HT_.out (by kernel_rfl)) (fun _ _ _ h => h) (Or.inl ⟨by rfl, ?_⟩) ?_ ?_
    rotate_left
    · intro w'
      go_simp
      with_reducible rfl
    rotate_left
    · simp only [Act.put, List.setIfInBounds_toArray, List.set_cons_zero, List.set_cons_succ, iJ, iK]
      rfl
    refine iM (i := 4) (N := some 48) (v := ?_) (a' := ?_) #[true, true, true, false, true, false, false, false, false, false, false, false, false, false, false, false, false, false, false, false] rfl rfl (iI HT_.out (by kernel_rfl)) (fun _ _ _ h => h) (Or.inl ⟨by rfl, ?_⟩) ?_ ?_
    rotate_left
    · intro w'
      go_simp
      with_reducible rfl
    rotate_left
    · simp only [Act.put, List.setIfInBounds_toArray, List.set_cons_zero, List.set_cons_succ, iJ, iK]
      rfl
    refine iM (i := 9) (N := some 53) (v := ?_) (a' := ?_) #[true, true, true, false, true, false, false, false, false, true, false, false, false, false, false, false, false, false, false, false] rfl rfl (iI HT_.out (by kernel_rfl)) (fun _ _ _ h => h) (Or.inl ⟨by rfl, ?_⟩) ?_ ?_
    rotate_left
    · intro w'
      go_simp
      with_reducible rfl
    rotate_left
    · simp only [Act.put, List.setIfInBounds_toArray, List.set_cons_zero, List.set_cons_succ, iJ, iK]
      rfl
    refine iM (i := 10) (N := some 54) (v := ?_) (a' := ?_) #[true, true, true, false, true, false, false, false, false, true, true, false, false, false, false, false, false, false, false, false] rfl rfl (iI HT_.out (by kernel_rfl)) (fun _ _ _ h => h) (Or.inl ⟨by rfl, ?_⟩) ?_ ?_
    rotate_left
    · intro w'
      go_simp
      with_reducible rfl
    rotate_left
    · simp only [Act.put, List.setIfInBounds_toArray, List.set_cons_zero, List.set_cons_succ, iJ, iK]
      rfl
    refine iM (i := 11) (N := some 55) (v := ?_) (a' := ?_) #[true, true, true, false, true, false, false, false, false, true, true, true, false, false, false, false, false, false, false, false] rfl rfl (iI HT_.out (by kernel_rfl)) (fun _ _ _ h => h) (Or.inl ⟨by rfl, ?_⟩) ?_ ?_
    rotate_left
    · intro w'
      go_simp
      with_reducible rfl
    rotate_left
    · simp only [Act.put, List.setIfInBounds_toArray, List.set_cons_zero, List.set_cons_succ, iJ, iK]
      rfl
    refine iM (i := 13) (N := some 57) (v := ?_) (a' := ?_) #[true, true, true, false, true, false, false, false, false, true, true, true, false, true, false, false, false, false, false, false] rfl rfl (iI HT_.out (by kernel_rfl)) (fun _ _ _ h => h) (Or.inl ⟨by rfl, ?_⟩) ?_ ?_
    rotate_left
    · intro w'
      go_simp
      with_reducible rfl
    rotate_left
    · simp only [Act.put, List.setIfInBounds_toArray, List.set_cons_zero, List.set_cons_succ, iJ, iK]
      rfl
    refine jH (i := 3) (N := some 47) (v := ?_) (a' := ?_) #[true, true, true, true, true, false, false, false, false, true, true, true, false, true, false, false, false, false, false, false] rfl rfl (iT HT_.out HW_.out (by kernel_rfl)) (fun _ _ _ h => h) (Or.inl ⟨by rfl, ?_⟩) hHeld ?_ ?_
    rotate_left
    · rintro w' ⟨s0, s1, s2⟩
      go_simp
      with_reducible rfl
    rotate_left
    · simp only [Act.put, List.setIfInBounds_toArray, List.set_cons_zero, List.set_cons_succ, iJ, iK]
      rfl
    refine iM (i := 5) (N := some 49) (v := ?_) (a' := ?_) #[true, true, true, true, true, true, false, false, false, true, true, true, false, true, false, false, false, false, false, false] rfl rfl (iI HT_.out (by kernel_rfl)) (fun _ _ _ h => h) (Or.inl ⟨by rfl, ?_⟩) ?_ ?_
    rotate_left
    · intro w'
      go_simp
      with_reducible rfl
    rotate_left
    · simp only [Act.put, List.setIfInBounds_toArray, List.set_cons_zero, List.set_cons_succ, iJ, iK]
      rfl
    refine iM (i := 6) (N := some 50) (v := ?_) (a' := ?_) #[true, true, true, true, true, true, true, false, false, true, true, true, false, true, false, false, false, false, false, false] rfl rfl (iI HT_.out (by kernel_rfl)) (fun _ _ _ h => h) (Or.inl ⟨by rfl, ?_⟩) ?_ ?_
    rotate_left
    · intro w'
      go_simp
      with_reducible rfl
    rotate_left
    · simp only [Act.put, List.setIfInBounds_toArray, List.set_cons_zero, List.set_cons_succ, iJ, iK]
      rfl
    refine jH (i := 7) (N := some 51) (v := ?_) (a' := ?_) #[true, true, true, true, true, true, true, true, false, true, true, true, false, true, false, false, false, false, false, false] rfl rfl (iT HT_.out HW_.out (by kernel_rfl)) (fun _ _ _ h => h) (Or.inl ⟨by rfl, ?_⟩) hHeld ?_ ?_
    rotate_left
    · rintro w' ⟨s0, s1, s2⟩
      go_simp
      with_reducible rfl
    rotate_left
    · simp only [Act.put, List.setIfInBounds_toArray, List.set_cons_zero, List.set_cons_succ, iJ, iK]
      rfl
    refine iM (i := 8) (N := some 52) (v := ?_) (a' := ?_) #[true, true, true, true, true, true, true, true, true, true, true, true, false, true, false, false, false, false, false, false] rfl rfl (iI HT_.out (by kernel_rfl)) (fun _ _ _ h => h) (Or.inl ⟨by rfl, ?_⟩) ?_ ?_
    rotate_left
    · intro w'
      go_simp
      with_reducible rfl
    rotate_left
    · simp only [Act.put, List.setIfInBounds_toArray, List.set_cons_zero, List.set_cons_succ, iJ, iK]
      rfl
    refine jH (i := 12) (N := some 56) (v := ?_) (a' := ?_) #[true, true, true, true, true, true, true, true, true, true, true, true, true, true, false, false, false, false, false, false] rfl rfl (iT HT_.out HW_.out (by kernel_rfl)) (fun _ _ _ h => h) (Or.inl ⟨by rfl, ?_⟩) hHeld ?_ ?_
    rotate_left
    · rintro w' ⟨s0, s1, s2⟩
      go_simp
      with_reducible rfl
    rotate_left
    · simp only [Act.put, List.setIfInBounds_toArray, List.set_cons_zero, List.set_cons_succ, iJ, iK]
      rfl
    refine iM (i := 14) (N := some 58) (v := ?_) (a' := ?_) #[true, true, true, true, true, true, true, true, true, true, true, true, true, true, true, false, false, false, false, false] rfl rfl (iI HT_.out (by kernel_rfl)) (fun _ _ _ h => h) (Or.inl ⟨by rfl, ?_⟩) ?_ ?_
    rotate_left
    · intro w'
      go_simp
      with_reducible rfl
    rotate_left
    · simp only [Act.put, List.setIfInBounds_toArray, List.set_cons_zero, List.set_cons_succ, iJ, iK]
      rfl
    refine iM (i := 15) (N := some 59) (v := ?_) (a' := ?_) #[true, true, true, true, true, true, true, true, true, true, true, true, true, true, true, true, false, false, false, false] rfl rfl (iI HT_.out (by kernel_rfl)) (fun _ _ _ h => h) (Or.inl ⟨by rfl, ?_⟩) ?_ ?_
    rotate_left
    · intro w'
      go_simp
      with_reducible rfl
    rotate_left
    · simp only [Act.put, List.setIfInBounds_toArray, List.set_cons_zero, List.set_cons_succ, iJ, iK]
      rfl
    refine jH (i := 16) (N := some 60) (v := ?_) (a' := ?_) #[true, true, true, true, true, true, true, true, true, true, true, true, true, true, true, true, true, false, false, false] rfl rfl (iT HT_.out HW_.out (by kernel_rfl)) (fun _ _ _ h => h) (Or.inl ⟨by rfl, ?_⟩) hHeld ?_ ?_
    rotate_left
    · rintro w' ⟨s0, s1, s2⟩
      go_simp
      with_reducible rfl
    rotate_left
    · simp only [Act.put, List.setIfInBounds_toArray, List.set_cons_zero, List.set_cons_succ, iJ, iK]
      rfl
    refine iM (i := 17) (N := some 61) (v := ?_) (a' := ?_) #[true, true, true, true, true, true, true, true, true, true, true, true, true, true, true, true, true, true, false, false] rfl rfl (iI HT_.out (by kernel_rfl)) (fun _ _ _ h => h) (Or.inl ⟨by rfl, ?_⟩) ?_ ?_
    rotate_left
    · intro w'
      go_simp
      with_reducible rfl
    rotate_left
    · simp only [Act.put, List.setIfInBounds_toArray, List.set_cons_zero, List.set_cons_succ, iJ, iK]
      rfl
    refine iM (i := 18) (N := some 62) (v := ?_) (a' := ?_) #[true, true, true, true, true, true, true, true, true, true, true, true, true, true, true, true, true, true, true, false] rfl rfl (iI HT_.out (by kernel_rfl)) (fun _ _ _ h => h) (Or.inl ⟨by rfl, ?_⟩) ?_ ?_
    rotate_left
    · intro w'
      go_simp
      with_reducible rfl
    rotate_left
    · simp only [Act.put, List.setIfInBounds_toArray, List.set_cons_zero, List.set_cons_succ, iJ, iK]
      rfl
    refine iM (i := 19) (N := some 6) (v := ?_) (a' := ?_) #[true, true, true, true, true, true, true, true, true, true, true, true, true, true, true, true, true, true, true, true] rfl rfl (iI HT_.out (by kernel_rfl)) (fun _ _ _ h => h) (Or.inl ⟨by rfl, ?_⟩) ?_ ?_
    rotate_left
    · intro w'
      go_simp
      with_reducible rfl
    rotate_left
    · simp only [Act.put, List.setIfInBounds_toArray, List.set_cons_zero, List.set_cons_succ, iJ, iK]
      rfl
    refine kP (jM HT_.out (by kernel_rfl)) ?_
    go_wp2
    go_ret
    have hb4 : Below w.heap.size w w2.drew := iP hbl
    refine ⟨?_, ?_, RoFr.of_below hb4 HH.out.Ble⟩
    · rw [← HN4.out, ← HN3.out]
      exact congrArg (fun z => Ending.returned (.bool z)) (by rw [Bool.eq_iff_iff, beq_iff_eq, decide_eq_true_eq]; omega)
    · rw [xE HK.out]
      exact HH.out.below hb4
end Go.Proofs.Ytjppookmjdaplaa.K
end

section
namespace Go.Proofs.Ytjppookmjdaplaa.K
open Go Go.RowKit Go.Maps Go.Proofs.YtjppookmjdaplaaW.PrintWords Go.Proofs.YtjppookmjdaplaaW.PrintLast Go.Proofs.YtjppookmjdaplaaW.PrintMore Go.Proofs.Ytjppookmjdaplaa.My
set_option maxRecDepth 20000 in
theorem yU {w : World} {B rc : Nat} {s : CS} (h : Ro w B rc s) (hok : s.Ok) (id x : Int) :
    Calls Try.prog 59 #[.pointer (some ⟨rc, 0, none⟩), .int .u32 id, .int .i64 x] w fun e w' => e = .returned (.bool (s.voteE id x)) ∧ Ro w' B rc (s.vote id x) ∧ RoFr B w w' := by
  have hst := nU h hok.nd id 1
  have HH := iC.mk h
  have HO := iC.mk hok
  clear h hok
  go_enter Try.func59, Try.ntmps59
  go_wp2_with fail
  go_at_call 79
  refine hst.mono ?_
  rintro e w1 ⟨i, rfl, rfl, hA⟩
  clear hst
  rcases hA with ⟨rfl, hg⟩ | ⟨k, b, rfl, hk, hg⟩
  · have HG := iC.mk hg
    clear hg
    go_wp2
    go_ret
    unfold CS.voteE CS.vote
    rw [HG.out]
    exact ⟨rfl, HH.out, RoFr.refl _ _⟩
  · have hs := uJ HH.out HO.out hk x
    have hk0 : (0 : Int) ≤ (k : Int) := by omega
    have HG := iC.mk hg
    have HK := iC.mk hk
    clear hg hk
    go_wp2_with fail
    go_at_call 80
    refine hs.mono ?_
    rintro e w2 ⟨rfl, h2, hf2⟩
    have H2 := iC.mk (And.intro h2 hf2)
    clear hs h2 hf2
    go_wp2
    go_ret
    unfold CS.voteE CS.vote
    rw [HG.out]
    refine ⟨rfl, ?_, H2.out.2⟩
    show Ro _ B rc (s.withL (setB s.L id (b.say x)))
    rw [vN HO.out.nd HK.out]
    exact H2.out.1
set_option maxRecDepth 20000 in
theorem IA {w : World} {B rc : Nat} {s : CS} (h : Ro w B rc s) (hok : s.Ok) (id x : Int) :
    Calls Try.prog 61 #[.pointer (some ⟨rc, 0, none⟩), .int .u32 id, .int .i64 x] w fun e w' => e = .returned (.bool (s.doneE id x)) ∧ Ro w' B rc (s.done id x) ∧ RoFr B w w' := by
  have hst := nU h hok.nd id 2
  have HH := iC.mk h
  have HO := iC.mk hok
  clear h hok
  go_enter Try.func61, Try.ntmps61
  go_wp2_with fail
  go_at_call 79
  refine hst.mono ?_
  rintro e w1 ⟨i, rfl, rfl, hA⟩
  clear hst
  rcases hA with ⟨rfl, hg⟩ | ⟨k, b, rfl, hk, hg⟩
  · have HG := iC.mk hg
    clear hg
    go_wp2
    go_ret
    unfold CS.doneE CS.done CS.owe
    rw [HG.out]
    exact ⟨rfl, HH.out, RoFr.refl _ _⟩
  · have hs := uJ HH.out HO.out hk x
    have hk0 : (0 : Int) ≤ (k : Int) := by omega
    obtain ⟨g, q, A', k', h1, _, _, _, _, _, _, _, _, _, _, _, y5, _⟩ := HH.out.get hk
    have c0 := (iD h1 0).trans (show _ = some (Value.slice (some ⟨g, 0, none⟩) s.L.length q) from rfl)
    have hlt : k < s.L.length := (List.getElem?_eq_some_iff.1 hk).1
    obtain ⟨N, hN⟩ : ∃ N, s.L.length = N := ⟨_, rfl⟩
    rw [hN] at c0 hlt
    simp only at y5
    have HG := iC.mk hg
    have HK := iC.mk hk
    clear hg hk h1 hN
    cases he : b.ended with
    | true =>
      rw [he] at y5
      have HE := iC.mk he
      clear he
      go_wp2
      go_ret
      unfold CS.doneE CS.done CS.owe
      rw [HG.out]
      simp only [Option.filter, HE.out, Bool.not_true, Bool.false_eq_true, if_false]
      exact ⟨rfl, HH.out, RoFr.refl _ _⟩
    | false =>
      rw [he] at y5
      have HE := iC.mk he
      clear he
      go_wp2_with fail
      go_at_call 80
      refine hs.mono ?_
      rintro e w2 ⟨rfl, h2, hf2⟩
      have H2 := iC.mk (And.intro h2 hf2)
      clear hs h2 hf2
      go_wp2
      go_ret
      unfold CS.doneE CS.done CS.owe
      rw [HG.out]
      simp only [Option.filter, HE.out, Bool.not_false, if_true]
      refine ⟨rfl, ?_, H2.out.2⟩
      show Ro _ B rc (s.withL (setB s.L id (b.say x)))
      rw [vN HO.out.nd HK.out]
      exact H2.out.1
end Go.Proofs.Ytjppookmjdaplaa.K
end

section
namespace Go.Proofs.Ytjppookmjdaplaa.K
open Go Go.RowKit Go.Maps Go.Proofs.YtjppookmjdaplaaW.PrintWords Go.Proofs.YtjppookmjdaplaaW.PrintLast Go.Proofs.YtjppookmjdaplaaW.PrintMore Go.Proofs.Ytjppookmjdaplaa.My
theorem uH : (Try.prog.info? 130).map (fun i => (i.zero, i.size, i.bytes)) = some (some (.agg #[.int .u32 0, .int .u8 0, .int .u32 0, .slice none 0 0, .slice none 0 0, .bool false]), kB.sz, 72) := by kernel_rfl
/-- A batch that is read out of a row leads to no row of batches. -/
theorem zL {w : World} {B : Nat} {ok ok' : Nat → Prop} {p : TBa} {cs : List Value} {v : Value} {xs : List TBa} (h : kB.M w B ok p cs) (hv : kB.R 130 w B ok' v xs) : kB.M w B (fun j => some j ≠ v.ownBlock) p cs := by
  cases e : v.ownBlock with
  | none => exact kB.M_mono (fun _ _ => by simp) h
  | some g =>
    obtain ⟨inner, ho⟩ := Kd.R_own hv
    obtain ⟨cells, hc⟩ := jZ ho g e
    refine kB.M_mono (fun j hj => ?_) (Kd.M_types h hc (fun q hq => by rw [kB_E] at hq; simp at hq; subst hq; decide))
    intro e2; injection e2 with e2; exact hj.2 e2
theorem MI (xs : List TBa) (k i : Nat) (hi : i < xs.length) : (xs.take (i + 1)).eraseIdx k = if i = k then (xs.take i).eraseIdx k else (xs.take i).eraseIdx k ++ [xs[i]] := by
  have ht : xs.take (i + 1) = xs.take i ++ [xs[i]] := by rw [List.take_add_one, List.getElem?_eq_getElem hi]; rfl
  have hl : (xs.take i).length = i := by rw [List.length_take]; omega
  rw [ht]
  by_cases h : i = k
  · subst h
    rw [if_pos rfl, List.eraseIdx_append_of_length_le (by omega), hl, Nat.sub_self, List.eraseIdx_of_length_le (l := xs.take i) (by omega)]
    simp
  · rw [if_neg h]
    by_cases h2 : k < i
    · rw [List.eraseIdx_append_of_lt_length (by omega)]
    · rw [List.eraseIdx_append_of_length_le (by omega), List.eraseIdx_of_length_le (l := xs.take i) (by omega), List.eraseIdx_of_length_le (by simp; omega)]
set_option maxRecDepth 20000 in
set_option maxHeartbeats 4000000 in
theorem o9 {w : World} {B : Nat} {A : Option Addr} {n q : Nat} {xs : List TBa} (h : kB.R 130 w B (fun _ => True) (.slice A n q) xs) (hB : B ≤ w.heap.size) (hn : xs.length ≤ 1000000) (k : Nat) :
    Calls Try.prog 81 #[.slice A n q, .int .i64 (k : Int)] w fun e w' => ∃ v, e = .returned v ∧ kB.R 130 w' B (fun _ => True) v (xs.eraseIdx k) ∧ Below w.heap.size w w' := by
  have hN := (Kd.R_reads' h).1
  have HH := iC.mk h
  have HN := iC.mk hN
  have hmx : n ≤ 1000000 := by omega
  clear h hN
  go_enter Try.func81, Try.ntmps81
  go_wp2_with fail
  go_loopw [5, 6] (fun p i' wr => ∃ i : Nat, i' = .int .i64 (i : Int) ∧ i ≤ n ∧ iC (kB.R 130 wr B (fun _ => True) p ((xs.take i).eraseIdx k)) ∧ iC (∀ j, p.ownBlock = some j → w.heap.size ≤ j) ∧ iC (Below w.heap.size w wr)) (fun _ i' _ => ((n : Int) - intOf i').toNat)
  case atStart => exact ⟨0, rfl, Nat.zero_le _, ⟨by rw [List.take_zero]; simp only [List.eraseIdx_nil]; exact Kd.R_nil _ _ _ _ _⟩, ⟨fun j hj => by simp [Value.ownBlock] at hj⟩, ⟨Below.refl _ _⟩⟩
  case round =>
    obtain ⟨i, rfl, hi, HO, HL, HBr⟩ := hrel
    by_cases hlt : i < n
    · have hxl : i < xs.length := by rw [← HN.out]; exact hlt
      have hw : wrap64 ((i : Int) + 1) = ((i + 1 : Nat) : Int) := by unfold wrap64; omega
      have hR := Kd.R_below HH.out HBr.out
      obtain ⟨g, rfl⟩ : ∃ g, A = some ⟨g, 0, none⟩ := by
        obtain ⟨g, cap, he, _⟩ := Kd.R_form hR (by omega)
        injection he with e1 _ _
        exact ⟨g, e1⟩
      obtain ⟨c, hcl, hM, hcc, _⟩ := Kd.R_elem hR J.z130 (i : Int) (by omega) (by omega)
      rw [Int.toNat_natCast, List.getD_eq_getElem?_getD, List.getElem?_eq_getElem hxl] at hM
      rw [Int.toNat_natCast] at hcc
      simp only [Option.getD_some] at hM
      have hMo := zL hM HO.out
      have hE := iC.mk (MI xs k i hxl)
      obtain ⟨P, hP⟩ : ∃ P, P = xs[i] := ⟨_, rfl⟩
      rw [← hP] at hMo hE hM
      obtain ⟨v3, v4, rfl, r3, r4⟩ := J.k130_openM hM
      obtain ⟨A3, c3, rfl, _, _⟩ := oD r3
      obtain ⟨A4, c4, rfl, _, _⟩ := oD r4
      have HM := iC.mk hMo
      have y0 : wr.cell? ⟨g, i * 6, none⟩ = _ := hcc 0 _ rfl
      have y1 : wr.cell? ⟨g, i * 6 + 1, none⟩ = _ := hcc 1 _ rfl
      have y2 : wr.cell? ⟨g, i * 6 + 2, none⟩ = _ := hcc 2 _ rfl
      have y3 : wr.cell? ⟨g, i * 6 + 3, none⟩ = _ := hcc 3 _ rfl
      have y4 : wr.cell? ⟨g, i * 6 + 4, none⟩ = _ := hcc 4 _ rfl
      have y5 : wr.cell? ⟨g, i * 6 + 5, none⟩ = _ := hcc 5 _ rfl
      clear hM hMo hcc hcl hR r3 r4 hP
      by_cases hik : i = k
      · have hb : ((i : Int) != (k : Int)) = false := by simp [hik]
        go_wp2
        go_roundw
        case rel => exact ⟨i + 1, by first | rfl | rw [hw] | (simp [hik]), hlt, ⟨by rw [hE.out, if_pos hik]; exact HO.out⟩, HL, HBr⟩
        case measure => (first | (simp [intOf, hw]; omega) | (simp [intOf]; omega))
      · have hb : ((i : Int) != (k : Int)) = true := by simp; omega
        obtain ⟨Av, cv, hv⟩ := Kd.R_slice HO.out
        obtain ⟨M, hM⟩ : ∃ M, ((xs.take i).eraseIdx k).length = M := ⟨_, rfl⟩
        have HMM := iC.mk hM
        have hMi : M ≤ i := by rw [← hM]; exact Nat.le_trans (List.length_eraseIdx_le _ _) (by rw [List.length_take]; omega)
        rw [hM] at hv
        subst hv
        have hsz := Nat.le_trans hB HBr.out.size
        have hbb := iC.mk (HBr.out.mono hB)
        clear hM
        go_wp2_with (at_builtin; go_loud (refine Kd.R_append kB (w0 := w) B rfl (.tmp 16) (.tmp 21) 107 130 (.agg #[.int .u32 0, .int .u8 0, .int .u32 0, .slice none 0 0, .slice none 0 0, .bool false]) 72 rfl Try.underlying107 uH rfl (by decide) (by decide) (.slice Av M cv) ((xs.take i).eraseIdx k) P [.int .u32 P.f0, .int .u8 P.f1.f0, .int .u32 P.f1.f1, .slice A3 P.f2.length c3, .slice A4 P.f3.length c4, .bool P.f4] (fun _ => True) (fun j => some j ≠ (Value.slice Av M cv).ownBlock) rfl rfl HM.out (fun j hj => ⟨trivial, hj⟩) (fun _ _ => trivial) HO.out hbb.out hsz (by rw [HMM.out]; omega) ?_; intro v1 w4 ho1 hb1 hg1 hat1; have HO4 := iC.mk ho1; have HG4 := iC.mk hg1; have HA4 := iC.mk hat1; clear ho1 hb1 hg1 hat1))
        go_roundw
        case rel => exact ⟨i + 1, by first | rfl | rw [hw], hlt, ⟨by rw [hE.out, if_neg hik]; exact HO4.out⟩, ⟨fun j hj => by
          rcases HA4.out with h | ⟨b, h, hb⟩
          · rw [h] at hj; exact HL.out j hj
          · rw [h] at hj; injection hj with hj; subst hj; exact Nat.le_trans HBr.out.size hb⟩, ⟨HBr.out.grown HG4.out HBr.out.size HL.out⟩⟩
        case measure => (first | (simp [intOf, hw]; omega) | (simp [intOf]; omega))
    · obtain rfl : i = n := by omega
      go_wp2
      go_ret
      refine ⟨_, rfl, ?_, HBr.out⟩
      have := HO.out
      rw [List.take_of_length_le (by have := HN.out; omega)] at this
      exact this
theorem lT {α β : Type} (f : α → β) : ∀ (l : List α) (k : Nat), (l.eraseIdx k).map f = (l.map f).eraseIdx k
  | [], _ => rfl
  | a :: l, 0 => rfl
  | a :: l, k + 1 => by simp [lT f l k]
theorem vJ : ∀ {l : List (Int × CB)} (_ : (keysB l).Nodup) {id : Int} {k : Nat} {b : CB} (_ : l[k]? = some (id, b)), cutB l id = l.eraseIdx k
  | [], _, _, _, _, h => by simp at h
  | p :: l, hn, id, 0, b, h => by
    simp at h
    subst h
    have hn' := List.nodup_cons.1 (show (id :: keysB l).Nodup from hn)
    unfold cutB
    rw [List.filter_cons]
    simp only [ne_eq, not_true_eq_false, decide_false, Bool.false_eq_true, if_false, List.eraseIdx_cons_zero]
    rw [List.filter_eq_self]
    intro a ha
    simp only [decide_eq_true_eq, ne_eq]
    intro e
    exact hn'.1 (e ▸ List.mem_map.2 ⟨a, ha, rfl⟩)
  | p :: l, hn, id, k + 1, b, h => by
    have hn' := List.nodup_cons.1 (show (p.1 :: keysB l).Nodup from hn)
    have h' : l[k]? = some (id, b) := by simpa using h
    have hne : p.1 ≠ id := fun e => hn'.1 (by rw [e]; exact List.mem_map.2 ⟨(id, b), List.mem_of_getElem? h', rfl⟩)
    have := vJ hn'.2 h'
    unfold cutB at this ⊢
    rw [List.filter_cons]
    simp only [ne_eq, hne, not_false_eq_true, decide_true, if_true, List.eraseIdx_cons_succ]
    rw [this]
theorem SdOk.sub {l m : List (Int × CB)} (h : SdOk l) (hm : ∀ p ∈ m, p ∈ l) : SdOk m := fun p hp => h p (hm p hp)
/-- The row is another one. -/
theorem Ro.row {w : World} {B rc : Nat} {s : CS} (h : Ro w B rc s) {A' : Option Addr} {k' : Nat} {v0 : Value} (hb : w.heap[rc]? = some (Obj.cells #[v0, .int .u32 s.last, .int .u32 s.starts, .int .u32 s.begun, .int .u32 s.ep, .slice A' s.sp.length k'] 109 (0, 0)))
    {v : Value} (L : List (Int × CB)) (hv : kB.R 130 w B (fun _ => True) v (L.map toB)) (hsd : SdOk L) :
    Ro (w.setCell ⟨rc, 0, none⟩ v) B rc (s.withL L) ∧ RoFr B w (w.setCell ⟨rc, 0, none⟩ v) := by
  obtain ⟨A, q, A2, k2, h1, h2, h3⟩ := h.blk
  rw [hb] at h1
  injection h1 with h1
  injection h1 with h1 _ _
  have e5 := congrArg (fun a : Array Value => a[5]?) h1
  simp at e5
  obtain ⟨rfl, rfl⟩ := e5
  obtain ⟨A3, c3, rfl⟩ := Kd.R_slice hv
  have hg := kM w rc 0 (.slice A3 (L.map toB).length c3)
  have hf : RoFr B w _ := RoFr.of_grown hg h.cB h.Ble hb (.inl rfl)
  refine ⟨⟨h.cB, ⟨A3, c3, A', k', ?_, ?_, hf.rows h3 (fun z hz => by (obtain rfl : z = 96 := (by simpa [show kS.E = [] from rfl] using hz)); exact (by decide))⟩, hsd⟩, hf⟩
  · show _ = some (Obj.cells #[.slice A3 L.length c3, _, _, _, _, _] _ _)
    rw [show L.length = (L.map toB).length from by rw [List.length_map]]
    exact iZ hb 0 _ rfl
  · show kB.R _ _ _ _ (.slice A3 L.length c3) (L.map toB)
    rw [show (Value.slice A3 L.length c3) = .slice A3 (L.map toB).length c3 from by rw [List.length_map]]
    exact Kd.R_set hv hb (fun z hz => by rw [kB_E] at hz; simp at hz; rcases hz with rfl | rfl <;> decide) 0 _
set_option maxRecDepth 20000 in
theorem zI {w : World} {B rc : Nat} {s : CS} (h : Ro w B rc s) (hok : s.Ok) (hn : s.L.length ≤ 1000000) (id : Int) :
    Calls Try.prog 60 #[.pointer (some ⟨rc, 0, none⟩), .int .u32 id] w fun e w' => e = .returned (.bool (s.dropE id)) ∧ Ro w' B rc (s.drop id) ∧ RoFr B w w' := by
  have hst := nU h hok.nd id 1
  have HH := iC.mk h
  have HO := iC.mk hok
  clear h hok
  go_enter Try.func60, Try.ntmps60
  go_wp2_with fail
  go_at_call 79
  refine hst.mono ?_
  rintro e w1 ⟨i, rfl, rfl, hA⟩
  clear hst
  rcases hA with ⟨rfl, hg⟩ | ⟨k, b, rfl, hk, hg⟩
  · have HG := iC.mk hg
    clear hg
    go_wp2
    go_ret
    unfold CS.dropE CS.drop
    rw [HG.out]
    exact ⟨rfl, HH.out, RoFr.refl _ _⟩
  · obtain ⟨A, q, A', k', h1, h2, h3⟩ := HH.out.blk
    have c0 := (iD h1 0).trans (show _ = some (Value.slice A s.L.length q) from rfl)
    have hwo := o9 h2 HH.out.Ble (by rw [List.length_map]; exact hn) k
    have hk0 : ¬ ((k : Int) < 0) := by omega
    have HG := iC.mk hg
    have HK := iC.mk hk
    have H1 := iC.mk h1
    clear hg hk h1 h2 h3
    go_wp2_with fail
    go_at_call 81
    refine hwo.mono ?_
    rintro e w2 ⟨v, rfl, hR, hb2⟩
    have hX := iV hb2 H1.out
    have hput := (HH.out.below hb2).row hX (s.L.eraseIdx k) (by rw [lT]; exact hR) (HH.out.sd.sub (fun p hp => List.mem_of_mem_eraseIdx hp))
    have HP := iC.mk hput
    have HB := iC.mk hb2
    obtain ⟨A2, c2, rfl⟩ := Kd.R_slice hR
    have d0 := (iD hX 0).trans (show _ = some (Value.slice A s.L.length q) from rfl)
    have f0 := iE hX 0
    clear hwo hR hb2 hX hput c0
    go_wp2
    go_ret
    unfold CS.dropE CS.drop
    rw [HG.out]
    refine ⟨rfl, ?_, (RoFr.of_below HB.out HH.out.Ble).trans HP.out.2⟩
    show Ro _ B rc (s.withL (cutB s.L id))
    rw [vJ HO.out.nd HK.out]
    exact HP.out.1
end Go.Proofs.Ytjppookmjdaplaa.K
end

section
namespace Go.Proofs.Ytjppookmjdaplaa.K
open Go Go.RowKit Go.Maps Go.Proofs.YtjppookmjdaplaaW.PrintWords Go.Proofs.YtjppookmjdaplaaW.PrintLast Go.Proofs.YtjppookmjdaplaaW.PrintMore Go.Proofs.Ytjppookmjdaplaa.My
theorem N8 (l : List Int) (i : Nat) (h : i < l.length) : rd l (i : Int) = l[i] := by
  show l.getD (i : Int).toNat _ = _
  rw [Int.toNat_natCast, List.getD_eq_getElem?_getD, List.getElem?_eq_getElem h]; rfl
theorem rP (l : List Int) (hl : l.length ≤ 140737488355328) : ∀ (n k i : Nat) (d : Int), i + n = l.length → n < k → (i = 0 ∧ d = -1 ∨ 0 < i ∧ 0 ≤ d ∧ rd l ((i : Int) - 1) = d) → J.stratumref15_right.l0 k l i = some (lK d (l.drop i))
  | _, 0, _, _, _, h, _ => by omega
  | 0, k + 1, i, d, hi, hk, hd => by
    rw [J.stratumref15_right.l0, if_neg (by omega), List.drop_eq_nil_of_le (by omega), lK]
    exact congrArg some (decide_eq_decide.2 (by omega))
  | n + 1, k + 1, i, d, hi, hk, hd => by
    have hlt : i < l.length := by omega
    rw [J.stratumref15_right.l0, if_pos (by omega), if_pos (by omega), N8 l i hlt, List.drop_eq_getElem_cons hlt, lK]
    have hw : wrap64 ((i : Int) + 1) = ((i + 1 : Nat) : Int) := by unfold wrap64; omega
    have hw2 : 0 < i → wrap64 ((i : Int) - 1) = (i : Int) - 1 := fun h => by unfold wrap64; omega
    have ih := fun (hx : 0 ≤ l[i]) => rP l hl n k (i + 1) l[i] (by omega) (by omega) (.inr ⟨by omega, hx, by rw [show ((i + 1 : Nat) : Int) - 1 = (i : Int) from by omega, N8 l i hlt]⟩)
    have eF : ¬ (d < l[i] ∧ l[i] < 6) → (decide (d < l[i]) && decide (l[i] < 6) && lK l[i] (List.drop (i + 1) l)) = false := fun h => by
      rw [Bool.eq_false_iff]; intro h'; simp at h'; exact h ⟨h'.1.1, h'.1.2⟩
    have eT : d < l[i] ∧ l[i] < 6 → (decide (d < l[i]) && decide (l[i] < 6) && lK l[i] (List.drop (i + 1) l)) = lK l[i] (List.drop (i + 1) l) := fun h => by
      rw [decide_eq_true h.1, decide_eq_true h.2]; rfl
    by_cases h1 : l[i] < 0
    · rw [if_pos h1, eF (by omega)]
    · rw [if_neg h1]
      by_cases h2 : l[i] > 5
      · rw [if_pos h2, eF (by omega)]
      · rw [if_neg h2]
        rcases hd with ⟨h3, h4⟩ | ⟨h3, h4, h5⟩
        · rw [if_neg (by omega), hw, ih (by omega), eT (by omega)]
        · rw [if_pos (by omega), hw2 h3, if_pos (by omega), if_pos (by omega), h5]
          by_cases h6 : l[i] ≤ d
          · rw [if_pos h6, eF (by omega)]
          · rw [if_neg h6, hw, ih (by omega), eT (by omega)]
theorem xO (A : Option Addr) (c : Nat) (l : List Int) (w : World) (hr : (Kd.int .i64).C w A l.length l) (hc : l.length ≤ c) (hl : l.length ≤ 140737488355328) :
    Calls Try.prog 77 #[.slice A l.length c] w fun e w' => e = .returned (.bool (kW l)) ∧ Below w.heap.size w w' :=
  (J.stratumref15_right.calls (l.length + 1) A c l _ w hr hc (by
    unfold J.stratumref15_right.f
    have := rP l hl l.length (l.length + 1) 0 (-1) (by omega) (by omega) (.inl ⟨rfl, rfl⟩)
    rw [List.drop_zero] at this
    exact this)).mono (fun _ _ hh => ⟨hh.1, hh.2.below⟩)
/-- A number of the head is another one. -/
theorem Ro.num {w : World} {B rc : Nat} {s : CS} (h : Ro w B rc s) (s' : CS) (hL : s'.L = s.L) (hsp : s'.sp = s.sp) {i : Nat} {x : Value}
    (hn : ∀ v0 v5 : Value, (#[v0, .int .u32 s.last, .int .u32 s.starts, .int .u32 s.begun, .int .u32 s.ep, v5] : Array Value).setIfInBounds (i + 1) x = #[v0, .int .u32 s'.last, .int .u32 s'.starts, .int .u32 s'.begun, .int .u32 s'.ep, v5]) :
    Ro (w.setCell ⟨rc, i + 1, none⟩ x) B rc s' ∧ RoFr B w (w.setCell ⟨rc, i + 1, none⟩ x) := by
  obtain ⟨A, q, A', k', h1, h2, h3⟩ := h.blk
  have hg := kM w rc (i + 1) x
  have hf : RoFr B w _ := RoFr.of_grown hg h.cB h.Ble h1 (.inl rfl)
  refine ⟨⟨h.cB, ⟨A, q, A', k', ?_, ?_, ?_⟩, by rw [hL]; exact h.sd⟩, hf⟩
  · rw [hL, hsp]
    exact iZ h1 (i + 1) x (hn _ _)
  · rw [hL]; exact Kd.R_set h2 h1 (fun z hz => by rw [kB_E] at hz; simp at hz; rcases hz with rfl | rfl <;> decide) _ _
  · rw [hsp]; exact Kd.R_set h3 h1 (fun z hz => by (obtain rfl : z = 96 := (by simpa [show kS.E = [] from rfl] using hz)); decide) _ _
end Go.Proofs.Ytjppookmjdaplaa.K
end

section
namespace Go.Proofs.Ytjppookmjdaplaa.K
open Go Go.RowKit Go.Maps Go.Proofs.YtjppookmjdaplaaW.PrintWords Go.Proofs.YtjppookmjdaplaaW.PrintLast Go.Proofs.YtjppookmjdaplaaW.PrintMore Go.Proofs.Ytjppookmjdaplaa.My
variable {Z : Nat}
theorem litR (w : World) {B : Nat} (hB : B ≤ w.heap.size) (xs : List Int) (hm : xs.length ≤ 1000) : ki.R 3 (w.alloc (.cells (nums .i64 xs).toArray 3)) B (fun _ => True) (.slice (some ⟨w.heap.size, 0, none⟩) xs.length xs.length) xs :=
  Kd.R_of_own (JY w B 3 .i64 xs hB (by omega)) (fun _ _ => trivial)
theorem R_C {w : World} {B : Nat} {ok : Nat → Prop} {A : Option Addr} {n c : Nat} {l : List Int} (h : ki.R 3 w B ok (.slice A n c) l) : n = l.length ∧ n ≤ c ∧ ki.C w A l.length l := by
  obtain ⟨A', c', e', h1, h2⟩ := Kd.R_reads h
  injection e' with e1 e2 e3
  subst e1; subst e2; subst e3
  exact ⟨rfl, h1, h2⟩
theorem fr_C {B B' : Nat} {w : World} {ok : Nat → Prop} {A : Option Addr} {c n : Nat} {l : List Int} (h : ki.R 3 w B' ok (.slice A n c) l) : ∀ W', CoFr B w W' → ki.C W' A l.length l :=
  fun _ hf => (R_C (hf.rows h (fun q hq => by (obtain rfl : q = 3 := (by simpa [show ki.E = [] from rfl] using hq)); exact (by decide)))).2.2
/-- A record of which little is given. -/
theorem JG {w : World} {B : Nat} {k id t : Int} {A : Option Addr} {q : Nat} {l : List Int} (hr : ∀ W', CoFr B w W' → ki.C W' A l.length l) (hq : l.length ≤ q) (hl : k = 2 → Rt l) (hid : 0 ≤ id ∧ id < 4294967296) (ht : 0 ≤ t ∧ t < 4294967296) : RecA w B k id t A q l 0 none 0 [] :=
  ⟨hr, hq, fun _ _ => Kd.C_nil _ _, Nat.le_refl _, hl, hid, ht, by omega, by simp⟩
theorem bu_2 (w : World) (k id : Int) : (Instr.build 48 #[(0, .int .u8 k), (1, .int .u32 id)]).run Try.prog w = .ok (.agg #[.int .u8 k, .int .u32 id, .int .u32 0, .slice none 0 0, .slice none 0 0, .int .u32 0, .slice none 0 0, .int .i64 0, .int .i64 0, .slice none 0 0]) w := run_build w 48 _ _ (by kernel_rfl)
theorem bu_4 (w : World) (k id t : Int) (A : Option Addr) (n c : Nat) : (Instr.build 48 #[(0, .int .u8 k), (1, .int .u32 id), (2, .int .u32 t), (3, .slice A n c)]).run Try.prog w = .ok (.agg #[.int .u8 k, .int .u32 id, .int .u32 t, .slice A n c, .slice none 0 0, .int .u32 0, .slice none 0 0, .int .i64 0, .int .i64 0, .slice none 0 0]) w := run_build w 48 _ _ (by kernel_rfl)
theorem LY (w : World) (k t : Int) : (Instr.build 36 #[(0, .int .u8 k), (1, .int .u32 t)]).run Try.prog w = .ok (.agg #[.int .u8 k, .int .u32 t]) w := run_build w 36 _ _ (by kernel_rfl)
theorem MW (w : World) (a b : Int) : (Instr.field 36 (.agg #[.int .u8 a, .int .u32 b]) 0).run Try.prog w = .ok (.int .u8 a) w := by kernel_rfl
theorem II (w : World) (a : Int) (b : Value) : (Instr.field 42 (.agg #[.int .u32 a, b]) 0).run Try.prog w = .ok (.int .u32 a) w := by kernel_rfl
theorem LC (w : World) (v0 v1 v2 v4 v5 v6 v7 v8 v9 : Value) (A : Option Addr) (n c : Nat) : (Instr.field 48 (.agg #[v0, v1, v2, .slice A n c, v4, v5, v6, v7, v8, v9]) 3).run Try.prog w = .ok (.slice A n c) w := by kernel_rfl
def k1 : CS := CS.new.start 2
def k2 : CS := k1.begin_ [0, 1]
def k3 : CS := k2.vote 2001 0
def k4 : CS := k3.vote 2001 1
def k5 : CS := k4.commit 2001 5 [0, 1]
theorem rt01 : Rt [0, 1] := ⟨by decide, by decide⟩
attribute [-go_sem] Instr.build
attribute [local go_sem] bu_2 bu_4 LY MW II
set_option maxRecDepth 20000 in
set_option maxHeartbeats 8000000 in
theorem vF (w : World) : Calls Try.prog 12 #[] w fun e w' => e = .returned (.bool true) ∧ Below w.heap.size w w' := by
  go_enter Try.func12, Try.ntmps12
  go_wp2_with fail
  go_at_call 10
  refine (new_any w).mono ?_
  rintro e w1 ⟨c, rfl, h1, hb1⟩
  have HF1 := iC.mk (CoFr.of_below (B := w.heap.size) hb1 (Nat.le_refl _))
  have H1 := iC.mk h1
  have hcall := pR (x4 := .slice none 0 0) (x7 := .int .i64 0) (x8 := .int .i64 0) (x9 := .slice none 0 0) h1 (JG (t := 0) (k := 5) (id := 2) (l := []) (A := none) (q := 0) (fun _ _ => Kd.C_nil _ _) (Nat.le_refl _) (fun e => absurd e (by decide)) (by omega) (by omega))
  simp only [List.length_nil] at hcall
  clear h1 hb1
  go_wp2_with fail
  go_at_call 18
  refine hcall.mono ?_
  rintro e w2 ⟨rfl, h2, hf2⟩
  rw [show CS.new.startE 2 = 0 from rfl]
  have HF2 := iC.mk (HF1.out.trans hf2)
  have H2 := iC.mk (show Co c w2 w.heap.size c 0 k1 from h2)
  clear h2 hf2 hcall HF1 H1
  have hcall := fun k hk => uM (k := k) (l := [0, 1]) (A := some ⟨w2.heap.size, 0, none⟩) (H2.out.below (iF (Below.refl _ _) (.cells (nums .i64 [0, 1]).toArray 3))) (fr_C (litR w2 (B := w.heap.size) (Nat.le_trans H2.out.ge (Nat.le_of_lt H2.out.lt)) [0, 1] (by decide))) hk (by omega)
  go_wp2_with fail
  go_at_call 13
  refine (hcall 2 (by decide)).mono ?_
  rintro e w3 ⟨rfl, h3, hf3⟩
  rw [show k1.beginId [0, 1] = (2001, 0) from by decide +kernel]
  have HF3 := iC.mk ((HF2.out.trans (CoFr.of_below (iF (Below.refl _ _) _) (Nat.le_trans H2.out.ge (Nat.le_of_lt H2.out.lt)))).trans hf3)
  have H3 := iC.mk (show Co c w3 w.heap.size c 1 k2 from h3)
  clear h3 hf3 hcall HF2 H2
  have hcall := qM H3.out (id := 2001) (by omega) 0 (by omega)
  go_wp2_with fail
  go_at_call 14
  refine hcall.mono ?_
  rintro e w4 ⟨rfl, h4, hf4⟩
  rw [show k2.voteE 2001 0 = false from by decide +kernel]
  have HF4 := iC.mk (HF3.out.trans hf4)
  have H4 := iC.mk (show Co c w4 w.heap.size c 1 k3 from h4)
  clear h4 hf4 hcall HF3 H3
  have hcall := qM H4.out (id := 2001) (by omega) 1 (by omega)
  go_wp2_with fail
  go_at_call 14
  refine hcall.mono ?_
  rintro e w5 ⟨rfl, h5, hf5⟩
  rw [show k3.voteE 2001 1 = true from by decide +kernel]
  have HF5 := iC.mk (HF4.out.trans hf5)
  have H5 := iC.mk (show Co c w5 w.heap.size c 1 k4 from h5)
  clear h5 hf5 hcall HF4 H4
  have hcall := oJ (x4 := .slice none 0 0) (x7 := .int .i64 0) (x8 := .int .i64 0) (x9 := .slice none 0 0) (H5.out.below (iF (Below.refl _ _) (.cells (nums .i64 [0, 1]).toArray 3))) (JG (t := 5) (k := 2) (id := 2001) (q := 2) (fr_C (litR w5 (B := w.heap.size) (Nat.le_trans H5.out.ge (Nat.le_of_lt H5.out.lt)) [0, 1] (by decide))) (by decide) (fun _ => rt01) (by omega) (by omega)) (by omega)
  go_wp2_with fail
  go_at_call 18
  refine hcall.mono ?_
  rintro e w6 ⟨rfl, h6, hf6⟩
  rw [show k4.commitE 2001 5 = 0 from by decide +kernel]
  have HF6 := iC.mk ((HF5.out.trans (CoFr.of_below (iF (Below.refl _ _) _) (Nat.le_trans H5.out.ge (Nat.le_of_lt H5.out.lt)))).trans hf6)
  have H6 := iC.mk (show Co c w6 w.heap.size c 2 k5 from h6)
  clear h6 hf6 hcall HF5 H5
  have hcall := mM H6.out (id := 2001) (by omega)
  rw [show k5.status 2001 = (2, 5) from by decide +kernel] at hcall
  go_wp2_with fail
  go_at_call 16
  refine hcall.mono ?_
  rintro e w7 ⟨rfl, hb7⟩
  have H7 := iC.mk (H6.out.below hb7)
  have HF7 := iC.mk (iQ HF6.out.below hb7)
  clear hb7 hcall HF6 H6
  have hcall := yX H7.out (id := 2001) (by omega)
  rw [show k5.lacks 2001 = [0, 1] from by decide +kernel] at hcall
  go_wp2_with fail
  go_at_call 15
  refine hcall.mono ?_
  rintro e w8 ⟨v8, rfl, hr8, hb8⟩
  obtain ⟨A8, q8, rfl⟩ := Kd.R_slice hr8
  have H8 := iC.mk (H7.out.below hb8)
  have HF8 := iC.mk (iQ HF7.out hb8)
  clear hb8 hcall HF7 H7 hr8
  have hcall := mM H8.out (id := 9) (by omega)
  rw [show k5.status 9 = (3, 0) from by decide +kernel] at hcall
  go_wp2_with fail
  go_at_call 16
  refine hcall.mono ?_
  rintro e w9 ⟨rfl, hb9⟩
  have H9 := iC.mk (H8.out.below hb9)
  have HF9 := iC.mk (iQ HF8.out hb9)
  clear hb9 hcall HF8 H8
  have hcall := JV H9.out
  rw [show k5.ep = 1 from by decide +kernel] at hcall
  go_wp2_with fail
  go_at_call 19
  refine hcall.mono ?_
  rintro e w10 ⟨v10, rfl, _, hb10⟩
  have HFA := iC.mk (iQ HF9.out hb10)
  clear hb10 hcall
  go_wp2
  go_ret
  exact ⟨rfl, HFA.out⟩
end Go.Proofs.Ytjppookmjdaplaa.K
end

section
namespace Go.Proofs.Ytjppookmjdaplaa.K
open Go Go.RowKit Go.Maps Go.Proofs.YtjppookmjdaplaaW.PrintWords Go.Proofs.YtjppookmjdaplaaW.PrintLast Go.Proofs.YtjppookmjdaplaaW.PrintMore Go.Proofs.Ytjppookmjdaplaa.My
theorem MS (w : World) (id k t : Int) : (Instr.build 130 #[(0, .int .u32 id), (1, .agg #[.int .u8 k, .int .u32 t])]).run Try.prog w = .ok (.agg #[.int .u32 id, .int .u8 k, .int .u32 t, .slice none 0 0, .slice none 0 0, .bool false]) w := run_build w 130 _ _ (by kernel_rfl)
/-- The row is another one (of the old one nothing is asked). -/
theorem Ro.row0 {w : World} {B rc : Nat} {s : CS} (hc : B ≤ rc) (hz : B ≤ w.heap.size) {A' : Option Addr} {k' : Nat} {v0 : Value} (hb : w.heap[rc]? = some (Obj.cells #[v0, .int .u32 s.last, .int .u32 s.starts, .int .u32 s.begun, .int .u32 s.ep, .slice A' s.sp.length k'] 109 (0, 0)))
    (h3 : kS.R 96 w B (fun _ => True) (.slice A' s.sp.length k') s.sp) {v : Value} (L : List (Int × CB)) (hv : kB.R 130 w B (fun _ => True) v (L.map toB)) (hsd : SdOk L) :
    Ro (w.setCell ⟨rc, 0, none⟩ v) B rc (s.withL L) ∧ RoFr B w (w.setCell ⟨rc, 0, none⟩ v) := by
  obtain ⟨A3, c3, rfl⟩ := Kd.R_slice hv
  have hg := kM w rc 0 (.slice A3 (L.map toB).length c3)
  have hf : RoFr B w _ := RoFr.of_grown hg hc hz hb (.inl rfl)
  refine ⟨⟨hc, ⟨A3, c3, A', k', ?_, ?_, hf.rows h3 (fun z hz => by (obtain rfl : z = 96 := (by simpa [show kS.E = [] from rfl] using hz)); exact (by decide))⟩, hsd⟩, hf⟩
  · show _ = some (Obj.cells #[.slice A3 L.length c3, _, _, _, _, _] _ _)
    rw [show L.length = (L.map toB).length from by rw [List.length_map]]
    exact iZ hb 0 _ rfl
  · show kB.R _ _ _ _ (.slice A3 L.length c3) (L.map toB)
    rw [show (Value.slice A3 L.length c3) = .slice A3 (L.map toB).length c3 from by rw [List.length_map]]
    exact Kd.R_set hv hb (fun z hz => by rw [kB_E] at hz; simp at hz; rcases hz with rfl | rfl <;> decide) 0 _
theorem SdOk.push {l : List (Int × CB)} (h : SdOk l) (id st t : Int) {n : List Int} (hn : Rt n) : SdOk (l ++ [(id, ⟨st, t, n, [], false⟩)]) := by
  intro p hp
  rcases List.mem_append.1 hp with hp | hp
  · exact h p hp
  · simp at hp
    subst hp
    exact ⟨List.nodup_nil, fun x hx => (by cases hx), hn.asc.imp (fun h => by omega)⟩
attribute [-go_sem] Instr.build
attribute [local go_sem] MS LY
set_option maxRecDepth 20000 in
set_option maxHeartbeats 8000000 in
theorem vK {w : World} {B rc : Nat} {s : CS} (h : Ro w B rc s) (hok : s.Ok) (hn : s.L.length ≤ 1000000) {id t : Int} {A : Option Addr} {k : Nat} {l : List Int} {v0 v4 v5 v6 v7 v8 v9 : Value} (hr : ∀ W', RoFr B w W' → (Kd.int .i64).C W' A l.length l) (hc : l.length ≤ k) (hl : Rt l) :
    Calls Try.prog 82 #[.pointer (some ⟨rc, 0, none⟩), .agg #[v0, .int .u32 id, .int .u32 t, .slice A l.length k, v4, v5, v6, v7, v8, v9]] w fun e w' => e = .returned (.int .i64 (s.commitE id t)) ∧ Ro w' B rc (s.commit id t l) ∧ RoFr B w w' := by
  obtain ⟨N, hN⟩ : ∃ N, l.length = N := ⟨_, rfl⟩
  have HN := iC.mk hN
  have hnl := hl.len
  rw [hN] at hr hc hnl ⊢
  obtain ⟨W, hW⟩ : ∃ W, W = w.alloc (.cells #[v0, .int .u32 id, .int .u32 t, .slice A N k, v4, v5, v6, v7, v8, v9] 48) := ⟨_, rfl⟩
  have hb : Below w.heap.size w W := by rw [hW]; exact iF (Below.refl _ _) _
  have hX : W.heap[w.heap.size]? = some (.cells #[v0, .int .u32 id, .int .u32 t, .slice A N k, v4, v5, v6, v7, v8, v9] 48 (0, 0)) := by rw [hW]; exact jD rfl
  have h1 := h.below hb
  have hfd := oM h1 hok.nd id
  have r1 := (iD hX 1).trans (show _ = some (Value.int .u32 id) from rfl)
  have r2 := (iD hX 2).trans (show _ = some (Value.int .u32 t) from rfl)
  have HW := iC.mk hW
  have HB := iC.mk hb
  have HX := iC.mk hX
  have H1 := iC.mk h1
  have HF := iC.mk (RoFr.of_below hb h.Ble)
  have HC := iC.mk hr
  have HO := iC.mk hok
  have HR := iC.mk hl
  have HNL := iC.mk hn
  clear h hok hn hr hl hb hX h1 hW hN
  go_enter Try.func82, Try.ntmps82
  go_wp2_with fail
  rw [← HW.out]
  go_at_call 78
  refine hfd.mono ?_
  rintro e w1 ⟨i, rfl, rfl, hA⟩
  clear hfd
  by_cases hcom : (s.inn id 2).isSome
  · -- it is committed
    have HCO := iC.mk hcom
    rcases hA with ⟨rfl, hg⟩ | ⟨j, b, rfl, hk, hg⟩
    · rw [CS.inn_none hg] at hcom; cases hcom
    · have hst : b.st = 2 := by
        rw [CS.inn_some hg] at hcom
        by_cases e : b.st = 2
        · exact e
        · rw [if_neg e] at hcom; cases hcom
      obtain ⟨g, q, A', k', h1, _, _, _, _, _, _, _, y1, _⟩ := H1.out.get hk
      have c0 := (iD h1 0).trans (show _ = some (Value.slice (some ⟨g, 0, none⟩) s.L.length q) from rfl)
      have hlt : j < s.L.length := (List.getElem?_eq_some_iff.1 hk).1
      simp only at y1
      rw [hst] at y1
      obtain ⟨M, hM⟩ : ∃ M, s.L.length = M := ⟨_, rfl⟩
      rw [hM] at c0 hlt
      have hj0 : (0 : Int) ≤ (j : Int) := by omega
      clear h1 hk hg hM hcom r1 r2
      go_wp2
      go_ret
      unfold CS.commitE CS.commit
      rw [if_pos HCO.out, if_pos HCO.out]
      exact ⟨rfl, H1.out, HF.out⟩
  · have HCO := iC.mk hcom
    obtain ⟨A0, q0, A0', k0', g0, hR0, _⟩ := H1.out.blk
    have c0 := (iD g0 0).trans (show _ = some (Value.slice A0 s.L.length q0) from rfl)
    have c1 := (iD g0 1).trans (show _ = some (Value.int .u32 s.last) from rfl)
    obtain ⟨M, hM⟩ : ∃ M, s.L.length = M := ⟨_, rfl⟩
    have HM := iC.mk hM
    have HG0 := iC.mk g0
    have HR0 := iC.mk hR0
    rw [hM] at c0
    clear g0 hR0 hM hcom
    rcases hA with ⟨rfl, hg⟩ | ⟨j, b, rfl, hk, hg⟩
    · have hcut := uS hg
      clear hg
      go_upto_region 4 with fail
      refine jQ (n := 7) (S := fun w' => w'.cell? ⟨w.heap.size, 2, none⟩ = some (.int .u32 t) ∧ w'.cell? ⟨rc, 1, none⟩ = some (.int .u32 s.last)) (ds := []) #[false, false, false, false, false, false, false] (by kernel_rfl) rfl rfl ⟨r2, c1⟩ (fun hHeld => ?_)
      refine jE (T := (true, [([], []), ([0], [0]), ([], []), ([2], [2]), ([3], [3]), ([4], [4]), ([1, 5], [1, 5])])) (B := [0, 1, 0, 4, 12, 28, 63]) (by kernel_rfl) (by kernel_rfl) (fun HT_ HW_ => ?_)
      refine iM (i := 0) (N := some 25) (v := ?_) (a' := ?_) #[true, false, false, false, false, false, false] rfl rfl (iI HT_.out (by kernel_rfl)) (fun _ _ _ h => h) (Or.inl ⟨by rfl, ?_⟩) ?_ ?_
      rotate_left
      · intro w'
        go_simp
        with_reducible rfl
      rotate_left
      · simp only [Act.put, List.setIfInBounds_toArray, List.set_cons_zero, List.set_cons_succ, iJ, iK]
        rfl
      refine iM (i := 2) (N := some 27) (v := ?_) (a' := ?_) #[true, false, true, false, false, false, false] rfl rfl (iI HT_.out (by kernel_rfl)) (fun _ _ _ h => h) (Or.inl ⟨by rfl, ?_⟩) ?_ ?_
      rotate_left
      · intro w'
        go_simp
        with_reducible rfl
      rotate_left
      · simp only [Act.put, List.setIfInBounds_toArray, List.set_cons_zero, List.set_cons_succ, iJ, iK]
        rfl
      refine iM (i := 3) (N := some 28) (v := ?_) (a' := ?_) #[true, false, true, true, false, false, false] rfl rfl (iI HT_.out (by kernel_rfl)) (fun _ _ _ h => h) (Or.inl ⟨by rfl, ?_⟩) ?_ ?_
      rotate_left
      · intro w'
        go_simp
        with_reducible rfl
      rotate_left
      · simp only [Act.put, List.setIfInBounds_toArray, List.set_cons_zero, List.set_cons_succ, iJ, iK]
        rfl
      refine iM (i := 4) (N := some 29) (v := ?_) (a' := ?_) #[true, false, true, true, true, false, false] rfl rfl (iI HT_.out (by kernel_rfl)) (fun _ _ _ h => h) (Or.inl ⟨by rfl, ?_⟩) ?_ ?_
      rotate_left
      · intro w'
        go_simp
        with_reducible rfl
      rotate_left
      · simp only [Act.put, List.setIfInBounds_toArray, List.set_cons_zero, List.set_cons_succ, iJ, iK]
        rfl
      refine jH (i := 1) (N := some 26) (v := ?_) (a' := ?_) #[true, true, true, true, true, false, false] rfl rfl (iT HT_.out HW_.out (by kernel_rfl)) (fun _ _ _ h => h) (Or.inl ⟨by rfl, ?_⟩) hHeld ?_ ?_
      rotate_left
      · rintro w' ⟨s0, s1⟩
        go_simp
        with_reducible rfl
      rotate_left
      · simp only [Act.put, List.setIfInBounds_toArray, List.set_cons_zero, List.set_cons_succ, iJ, iK]
        rfl
      refine jH (i := 5) (N := some 30) (v := ?_) (a' := ?_) #[true, true, true, true, true, true, false] rfl rfl (iT HT_.out HW_.out (by kernel_rfl)) (fun _ _ _ h => h) (Or.inl ⟨by rfl, ?_⟩) hHeld ?_ ?_
      rotate_left
      · rintro w' ⟨s0, s1⟩
        go_simp
        with_reducible rfl
      rotate_left
      · simp only [Act.put, List.setIfInBounds_toArray, List.set_cons_zero, List.set_cons_succ, iJ, iK]
        rfl
      refine iM (i := 6) (N := some 31) (v := ?_) (a' := ?_) #[true, true, true, true, true, true, true] rfl rfl (iI HT_.out (by kernel_rfl)) (fun _ _ _ h => h) (Or.inl ⟨by rfl, ?_⟩) ?_ ?_
      rotate_left
      · intro w'
        go_simp
        with_reducible rfl
      rotate_left
      · simp only [Act.put, List.setIfInBounds_toArray, List.set_cons_zero, List.set_cons_succ, iJ, iK]
        rfl
      refine kP (jM HT_.out (by kernel_rfl)) ?_
      by_cases hlast : t ≤ s.last
      · have hdl : decide (t ≤ s.last) = true := decide_eq_true hlast
        have HLT := iC.mk hlast
        go_wp2
        go_ret
        unfold CS.commitE CS.commit
        rw [if_neg HCO.out, if_neg HCO.out, if_pos HLT.out, if_pos HLT.out]
        exact ⟨rfl, H1.out.below (iP (Below.refl _ _)), HF.out.trans (RoFr.of_below (iP (Below.refl _ _)) H1.out.Ble)⟩
      · have hdl : decide (t ≤ s.last) = false := decide_eq_false hlast
        have HLT := iC.mk hlast
        obtain ⟨W5, hW5⟩ : ∃ W5, W5 = w1.drew := ⟨_, rfl⟩
        have hb5 : Below w1.heap.size w1 W5 := by rw [hW5]; exact iP (Below.refl _ _)
        have H5 := iC.mk (H1.out.below hb5)
        have F5 := iC.mk (HF.out.trans (RoFr.of_below hb5 H1.out.Ble))
        have X5 := iC.mk (iV hb5 HX.out)
        have C5 := iC.mk (HC.out _ F5.out)
        rw [← hW5]
        clear hW5 hb5 c0 c1 r1 r2 HT_ HW_ hHeld
        obtain ⟨A5, q5, A5', k5', g5, hR5, hS5⟩ := H5.out.blk
        obtain ⟨M5, hM5⟩ : ∃ M5, (s).L.length = M5 := ⟨_, rfl⟩
        have HM5 := iC.mk hM5
        have HR5 := iC.mk hR5
        have HG5 := iC.mk g5
        have HS5 := iC.mk hS5
        have x1 := (iD X5.out 1).trans (show _ = some (Value.int .u32 id) from rfl)
        have x2 := (iD X5.out 2).trans (show _ = some (Value.int .u32 t) from rfl)
        have x3 := (iD X5.out 3).trans (show _ = some (Value.slice A N k) from rfl)
        have hb6 : Below W5.heap.size W5 (W5.alloc (.cells #[.int .u32 id, .int .u8 2, .int .u32 t, .slice none 0 0, .slice none 0 0, .bool false] 130)) := iF (Below.refl _ _) _
        have hsz6 := hb6.size
        have hcs := Kd.C_below C5.out hb6
        have hX6 : (W5.alloc (.cells #[.int .u32 id, .int .u8 2, .int .u32 t, .slice none 0 0, .slice none 0 0, .bool false] 130)).heap[W5.heap.size]? = some (.cells #[.int .u32 id, .int .u8 2, .int .u32 t, .slice none 0 0, .slice none 0 0, .bool false] 130 (0, 0)) := jD rfl
        have r3 := jI hb6 x3
        have HX6 := iC.mk hX6
        have e3 := (iD hX6 3).trans (show _ = some (Value.slice none 0 0) from rfl)
        clear hM5 hR5 hS5 g5 hX6
        go_wp2_with (at_builtin; (refine Kd.R_append_rows (Kd.int .i64) (w0 := W5.alloc (.cells #[.int .u32 id, .int .u8 2, .int .u32 t, .slice none 0 0, .slice none 0 0, .bool false] 130)) (W5.alloc (.cells #[.int .u32 id, .int .u8 2, .int .u32 t, .slice none 0 0, .slice none 0 0, .bool false] 130)).heap.size rfl (.tmp 50) (.tmp 52) 25 3 (.int .i64 0) 8 rfl Try.underlying25 oO rfl (by decide) (by omega) (.slice none 0 0) [] l _ _ _ (fun _ => True) (fun _ => False) rfl rfl (Kd.R_nil _ _ _ _ _) hcs (fun _ _ h => h) (fun _ h => h.elim) (fun _ _ => trivial) (Below.refl _ _) (Nat.le_refl _) (by simp only [List.length_nil]; omega) ?_; intro v7 w7 ho7 hb7 hg7 _; rw [List.nil_append] at ho7; obtain ⟨A7, c7, rfl⟩ := Kd.R_slice ho7; rw [HN.out] at ho7 ⊢; have hX7 := iV hb7 HX6.out; have e37 := (iD hX7 3).trans (show _ = some (Value.slice none 0 0) from rfl); have f37 := iE hX7 3; have HX7 := iC.mk hX7; have HO7 := iC.mk ho7; have HB7 := iC.mk hb7; clear ho7 hb7 hg7 hX7 hcs e3))
        obtain ⟨gb, hgb⟩ : ∃ gb, gb = W5.heap.size := ⟨_, rfl⟩
        obtain ⟨W8, hW8⟩ : ∃ W8, W8 = w7.setCell ⟨W5.heap.size, 3, none⟩ (.slice A7 N c7) := ⟨_, rfl⟩
        have hg8 := kM w7 W5.heap.size 3 (.slice A7 N c7)
        have hX8 : W8.heap[gb]? = some (.cells #[.int .u32 id, .int .u8 2, .int .u32 t, .slice A7 N c7, .slice none 0 0, .bool false] 130 (0, 0)) := by rw [hW8, hgb]; exact iZ HX7.out 3 _ rfl
        have hb8 : Below W5.heap.size W5 W8 := by
          rw [hW8]
          exact (hb6.trans (HB7.out.mono hsz6)).grown hg8 (Nat.le_trans hsz6 HB7.out.size) (fun j hj => by cases hj; exact Nat.le_refl _)
        have hR8 : (Kd.int .i64).R 3 W8 (W5.alloc (.cells #[.int .u32 id, .int .u8 2, .int .u32 t, .slice none 0 0, .slice none 0 0, .bool false] 130)).heap.size (fun _ => True) (.slice A7 N c7) l := by rw [hW8]; exact Kd.R_set HO7.out HX7.out (by decide) 3 _
        have h8 := H5.out.below hb8
        rw [← hW8, ← hgb]
        have hM : kB.M W8 B (fun _ => True) (toB (id, ⟨2, t, l, [], false⟩)) [.int .u32 id, .int .u8 2, .int .u32 t, .slice A7 N c7, .slice none 0 0, .bool false] := J.k130_mkM W8 B _ (toB (id, ⟨2, t, l, [], false⟩)) (Kd.R_lower hR8 (Nat.le_trans H5.out.Ble hsz6)) (Kd.R_nil _ _ _ _ _)
        have hRr := Kd.R_below HR5.out hb8
        have hMo := zL hM hRr
        rw [HM5.out] at hRr hMo
        have HM8 := iC.mk hMo
        have HR8 := iC.mk hRr
        have HB8 := iC.mk hb8
        have HX8 := iC.mk hX8
        have HRC := iC.mk (iV hb8 HG5.out)
        have HXR := iC.mk (iV hb8 X5.out)
        have HS8 := iC.mk h8
        have t0 := (iD HRC.out 0).trans (show _ = some (Value.slice A5 (s).L.length q5) from rfl)
        rw [HM5.out] at t0
        have p0 := (iD hX8 0).trans (show _ = some (Value.int .u32 id) from rfl)
        have p1 := (iD hX8 1).trans (show _ = some (Value.int .u8 2) from rfl)
        have p2 := (iD hX8 2).trans (show _ = some (Value.int .u32 t) from rfl)
        have p3 := (iD hX8 3).trans (show _ = some (Value.slice A7 N c7) from rfl)
        have p4 := (iD hX8 4).trans (show _ = some (Value.slice none 0 0) from rfl)
        have p5 := (iD hX8 5).trans (show _ = some (Value.bool false) from rfl)
        clear hgb hW8 hg8 hX8 hb8 hR8 h8 hM hRr hMo x1 x2 x3 r3 hb6 hsz6 e37 f37 HX7 HO7 HB7 HX6
        refine jQ (n := 11) (S := fun w' => w'.cell? ⟨rc, 0, none⟩ = some (.slice A5 M5 q5) ∧ w'.cell? ⟨gb, 0, none⟩ = some (.int .u32 id) ∧ w'.cell? ⟨gb, 1, none⟩ = some (.int .u8 2) ∧ w'.cell? ⟨gb, 2, none⟩ = some (.int .u32 t) ∧ w'.cell? ⟨gb, 3, none⟩ = some (.slice A7 N c7) ∧ w'.cell? ⟨gb, 4, none⟩ = some (.slice none 0 0) ∧ w'.cell? ⟨gb, 5, none⟩ = some (.bool false)) (ds := [7, 8, 9, 10]) #[false, false, false, false, false, false, false, false, false, false, false] (by kernel_rfl) rfl rfl ⟨t0, p0, p1, p2, p3, p4, p5⟩ (fun hHeld => ?_)
        refine jE (T := (true, [([], []), ([], []), ([1], [1]), ([2], [2]), ([3], [3]), ([], []), ([5], [5]), ([4, 6], [4, 6]), ([0, 0, 1, 2, 3, 4, 5, 6, 7], [0]), ([8, 0, 1, 2, 3, 4, 5, 6, 7], [8]), ([9, 7, 7, 0, 1, 2, 3, 4, 5, 6, 7], [7, 9])])) (B := [0, 0, 2, 6, 14, 0, 32, 126, 255, 511, 1023]) (by kernel_rfl) (by kernel_rfl) (fun HT_ HW_ => ?_)
        refine iM (i := 0) (N := some 55) (v := ?_) (a' := ?_) #[true, false, false, false, false, false, false, false, false, false, false] rfl rfl (iI HT_.out (by kernel_rfl)) (fun _ _ _ h => h) (Or.inl ⟨by rfl, ?_⟩) ?_ ?_
        rotate_left
        · intro w'
          go_simp
          with_reducible rfl
        rotate_left
        · simp only [Act.put, List.setIfInBounds_toArray, List.set_cons_zero, List.set_cons_succ, iJ, iK]
          rfl
        refine iM (i := 1) (N := some 56) (v := ?_) (a' := ?_) #[true, true, false, false, false, false, false, false, false, false, false] rfl rfl (iI HT_.out (by kernel_rfl)) (fun _ _ _ h => h) (Or.inl ⟨by rfl, ?_⟩) ?_ ?_
        rotate_left
        · intro w'
          go_simp
          with_reducible rfl
        rotate_left
        · simp only [Act.put, List.setIfInBounds_toArray, List.set_cons_zero, List.set_cons_succ, iJ, iK]
          rfl
        refine iM (i := 2) (N := some 57) (v := ?_) (a' := ?_) #[true, true, true, false, false, false, false, false, false, false, false] rfl rfl (iI HT_.out (by kernel_rfl)) (fun _ _ _ h => h) (Or.inl ⟨by rfl, ?_⟩) ?_ ?_
        rotate_left
        · intro w'
          go_simp
          with_reducible rfl
        rotate_left
        · simp only [Act.put, List.setIfInBounds_toArray, List.set_cons_zero, List.set_cons_succ, iJ, iK]
          rfl
        refine iM (i := 3) (N := some 58) (v := ?_) (a' := ?_) #[true, true, true, true, false, false, false, false, false, false, false] rfl rfl (iI HT_.out (by kernel_rfl)) (fun _ _ _ h => h) (Or.inl ⟨by rfl, ?_⟩) ?_ ?_
        rotate_left
        · intro w'
          go_simp
          with_reducible rfl
        rotate_left
        · simp only [Act.put, List.setIfInBounds_toArray, List.set_cons_zero, List.set_cons_succ, iJ, iK]
          rfl
        refine jH (i := 4) (N := some 59) (v := ?_) (a' := ?_) #[true, true, true, true, true, false, false, false, false, false, false] rfl rfl (iT HT_.out HW_.out (by kernel_rfl)) (fun _ _ _ h => h) (Or.inl ⟨by rfl, ?_⟩) hHeld ?_ ?_
        rotate_left
        · rintro w' ⟨s0, s1, s2, s3, s4, s5, s6⟩
          go_simp
          with_reducible rfl
        rotate_left
        · simp only [Act.put, List.setIfInBounds_toArray, List.set_cons_zero, List.set_cons_succ, iJ, iK]
          rfl
        refine jH (i := 5) (N := some 60) (v := ?_) (a' := ?_) #[true, true, true, true, true, true, false, false, false, false, false] rfl rfl (iT HT_.out HW_.out (by kernel_rfl)) (fun _ _ _ h => h) (Or.inl ⟨by rfl, ?_⟩) hHeld ?_ ?_
        rotate_left
        · rintro w' ⟨s0, s1, s2, s3, s4, s5, s6⟩
          go_simp
          with_reducible rfl
        rotate_left
        · simp only [Act.put, List.setIfInBounds_toArray, List.set_cons_zero, List.set_cons_succ, iJ, iK]
          rfl
        refine one_ (i := 6) (N := some 61) #[true, true, true, true, true, true, true, false, false, false, false] rfl rfl (jK HT_.out (by kernel_rfl)) (by decide) (fun K hK => ?_)
        refine mV (w1 := ?_) (v := ?_) (by rfl) rfl ?_ ?_
        rotate_left 2
        · go_simp
          constructor
          · rfl
          · rfl
        refine hK.out _ _ ⟨(iD (iO (w := W8.drew) HRC.out _) 0).trans (by rw [← HM5.out]; rfl), (iD (iO (w := W8.drew) HX8.out _) 0).trans rfl, (iD (iO (w := W8.drew) HX8.out _) 1).trans rfl, (iD (iO (w := W8.drew) HX8.out _) 2).trans rfl, (iD (iO (w := W8.drew) HX8.out _) 3).trans rfl, (iD (iO (w := W8.drew) HX8.out _) 4).trans rfl, (iD (iO (w := W8.drew) HX8.out _) 5).trans rfl⟩ (fun hHeld => ?_)
        clear hK K
        refine kC (a' := ?_) ?_ ?_
        rotate_left
        · show Act.put _ (some 61) _ = _
          simp only [Act.put, List.setIfInBounds_toArray, List.set_cons_zero, List.set_cons_succ, iJ, iK]
          rfl
        refine mQ (i := 7) (N := some 62) #[true, true, true, true, true, true, true, true, false, false, false] rfl rfl (jK HT_.out (by kernel_rfl)) (by decide) (fun K hK => ?_)
        refine Kd.R_append_step kB (w0 := W8.drew) B (by rfl) (.tmp 59) (.tmp 61) 107 130 (.agg #[.int .u32 0, .int .u8 0, .int .u32 0, .slice none 0 0, .slice none 0 0, .bool false]) 72 rfl Try.underlying107 uH rfl (by decide) (by decide) (.slice A5 M5 q5) (s.L.map toB) (toB (id, ⟨2, t, l, [], false⟩)) [.int .u32 id, .int .u8 2, .int .u32 t, .slice A7 N c7, .slice none 0 0, .bool false] (fun _ => True) (fun j => some j ≠ (Value.slice A5 M5 q5).ownBlock) rfl rfl (Kd.M_below HM8.out (iP (Below.refl _ _))) (fun j hj => ⟨trivial, hj⟩) (fun _ _ => trivial) (Kd.R_drew HR8.out) (Below.refl _ _) (HS8.out.below (iP (Below.refl _ _))).Ble (by rw [List.length_map]; have := HNL.out; omega) ?_
        intro v9 w9 ho hb9 hg9 hat
        obtain ⟨A9, c9, rfl⟩ := Kd.R_slice ho
        have HO9 := iC.mk ho
        have hf9 := RoFr.of_row (Kd.R_drew HR8.out) (HS8.out.below (iP (Below.refl _ _))).Ble hg9
        have HF9 := iC.mk hf9
        have hrc9 := jR (w := W8.drew) (g := rc) HRC.out hg9 (Kd.R_ne HR8.out HRC.out (by decide))
        have HRC9 := iC.mk hrc9
        have hs9 := (iD hrc9 0).trans (show _ = some (Value.slice A5 (s).L.length q5) from rfl)
        have hz9 := iE hrc9 0
        clear ho hb9 hg9 hat hf9 hrc9
        refine hK.out _ _ ?_
        clear hK K
        refine kC (a' := ?_) ?_ ?_
        rotate_left
        · show Act.put _ (some 62) _ = _
          simp only [Act.put, List.setIfInBounds_toArray, List.set_cons_zero, List.set_cons_succ, iJ, iK]
          rfl
        refine iM (i := 8) (N := some 63) (v := ?_) (a' := ?_) #[true, true, true, true, true, true, true, true, true, false, false] rfl rfl (iI HT_.out (by kernel_rfl)) (fun _ _ _ h => h) (Or.inl ⟨by rfl, ?_⟩) ?_ ?_
        rotate_left
        · intro w'
          go_simp
          with_reducible rfl
        rotate_left
        · simp only [Act.put, List.setIfInBounds_toArray, List.set_cons_zero, List.set_cons_succ, iJ, iK]
          rfl
        refine iM (i := 9) (N := some 64) (v := ?_) (a' := ?_) #[true, true, true, true, true, true, true, true, true, true, false] rfl rfl (iI HT_.out (by kernel_rfl)) (fun _ _ _ h => h) (Or.inl ⟨by rfl, ?_⟩) ?_ ?_
        rotate_left
        · intro w'
          go_simp
          with_reducible rfl
        rotate_left
        · simp only [Act.put, List.setIfInBounds_toArray, List.set_cons_zero, List.set_cons_succ, iJ, iK]
          rfl
        refine mQ (i := 10) (N := none) #[true, true, true, true, true, true, true, true, true, true, true] rfl rfl (jK HT_.out (by kernel_rfl)) (by decide) (fun K hK => ?_)
        refine mX (w1 := ?_) (by rfl) rfl ?_ ?_
        rotate_left
        · go_simp
          rfl
        refine hK.out _ _ ?_
        clear hK K
        refine kP (jM HT_.out (by kernel_rfl)) ?_
        obtain ⟨W10, hW10⟩ : ∃ W10, W10 = w9.setCell ⟨rc, 0, none⟩ (.slice A9 ((s).L.length + 1) c9) := ⟨_, rfl⟩
        have ho9 := HO9.out
        rw [show ((s).L.map toB ++ [toB (id, ⟨2, t, l, [], false⟩)]).length = (s).L.length + 1 from by rw [List.length_append, List.length_map]; rfl] at ho9
        have hS9 := HF9.out.rows (Kd.R_drew (Kd.R_below HS5.out HB8.out)) (fun z hz => by (obtain rfl : z = 96 := (by simpa [show kS.E = [] from rfl] using hz)); exact (by decide))
        have hrow := Ro.row0 (s := s) H5.out.cB (Nat.le_trans (HS8.out.below (iP (Below.refl _ _))).Ble HF9.out.size) HRC9.out hS9 ((s).L ++ [(id, ⟨2, t, l, [], false⟩)]) (by rw [List.map_append]; exact ho9) (H5.out.sd.push id 2 t HR.out)
        rw [← hW10] at hrow
        rw [← hW10]
        have hx10 := hrow.2.keep _ _ (HF9.out.keep _ _ (show W8.drew.heap[w.heap.size]? = _ from HXR.out) (fun cs t' fz e => by injection e with _ e2 _; subst e2; exact ⟨by decide, by decide⟩)) (fun cs t' fz e => by injection e with _ e2 _; subst e2; exact ⟨by decide, by decide⟩)
        have y2 := (iD hx10 2).trans (show _ = some (Value.int .u32 t) from rfl)
        obtain ⟨Az, qz, Az', kz', gz, _, _⟩ := hrow.1.blk
        have yc := (iD gz 1).trans (show _ = some (Value.int .u32 (s).last) from rfl)
        have yf := iE gz 1
        have hnum := hrow.1.num (⟨(s).L ++ [(id, ⟨2, t, l, [], false⟩)], t, (s).starts, (s).begun, (s).ep, (s).sp⟩ : CS) rfl rfl (i := 0) (x := .int .u32 t) (fun _ _ => rfl)
        have HNUM := iC.mk hnum
        have HFF := iC.mk (F5.out.trans ((RoFr.of_below HB8.out H5.out.Ble).trans ((RoFr.of_below (iP (Below.refl _ _)) HS8.out.Ble).trans (HF9.out.trans hrow.2))))
        clear hW10 hS9 hrow hx10 gz hnum HT_ HW_ hHeld t0 p0 p1 p2 p3 p4 p5 hs9 hz9
        go_wp2
        go_ret
        unfold CS.commitE CS.commit
        rw [if_neg HCO.out, if_neg HCO.out, if_neg (by have := HLT.out; omega), if_neg (by have := HLT.out; omega), hcut]
        exact ⟨rfl, HNUM.out.1, HFF.out.trans HNUM.out.2⟩
    · obtain ⟨g, q, A', k', h1, _, _, _, _, _, _, _, y1, _⟩ := H1.out.get hk
      have hst : ¬ b.st = 2 := fun e => HCO.out (by rw [CS.inn_some hg, if_pos e]; rfl)
      have hA0 := HG0.out.symm.trans h1
      injection hA0 with hA0
      injection hA0 with hA0 _ _
      have e0 := congrArg (fun a : Array Value => a[0]?) hA0
      simp at e0
      obtain ⟨rfl, rfl⟩ := e0
      have hlt : j < s.L.length := (List.getElem?_eq_some_iff.1 hk).1
      rw [HM.out] at hlt
      simp only at y1
      have hbs : (b.st == 2) = false := beq_eq_false_iff_ne.mpr hst
      have hj0 : (0 : Int) ≤ (j : Int) := by omega
      have hcut := vJ HO.out.nd hk
      clear h1 hk hg hst hA0
      go_upto_region 4 with fail
      refine jQ (n := 7) (S := fun w' => w'.cell? ⟨w.heap.size, 2, none⟩ = some (.int .u32 t) ∧ w'.cell? ⟨rc, 1, none⟩ = some (.int .u32 s.last)) (ds := []) #[false, false, false, false, false, false, false] (by kernel_rfl) rfl rfl ⟨r2, c1⟩ (fun hHeld => ?_)
      refine jE (T := (true, [([], []), ([0], [0]), ([], []), ([2], [2]), ([3], [3]), ([4], [4]), ([1, 5], [1, 5])])) (B := [0, 1, 0, 4, 12, 28, 63]) (by kernel_rfl) (by kernel_rfl) (fun HT_ HW_ => ?_)
      refine iM (i := 0) (N := some 25) (v := ?_) (a' := ?_) #[true, false, false, false, false, false, false] rfl rfl (iI HT_.out (by kernel_rfl)) (fun _ _ _ h => h) (Or.inl ⟨by rfl, ?_⟩) ?_ ?_
      rotate_left
      · intro w'
        go_simp
        with_reducible rfl
      rotate_left
      · simp only [Act.put, List.setIfInBounds_toArray, List.set_cons_zero, List.set_cons_succ, iJ, iK]
        rfl
      refine iM (i := 2) (N := some 27) (v := ?_) (a' := ?_) #[true, false, true, false, false, false, false] rfl rfl (iI HT_.out (by kernel_rfl)) (fun _ _ _ h => h) (Or.inl ⟨by rfl, ?_⟩) ?_ ?_
      rotate_left
      · intro w'
        go_simp
        with_reducible rfl
      rotate_left
      · simp only [Act.put, List.setIfInBounds_toArray, List.set_cons_zero, List.set_cons_succ, iJ, iK]
        rfl
      refine iM (i := 3) (N := some 28) (v := ?_) (a' := ?_) #[true, false, true, true, false, false, false] rfl rfl (iI HT_.out (by kernel_rfl)) (fun _ _ _ h => h) (Or.inl ⟨by rfl, ?_⟩) ?_ ?_
      rotate_left
      · intro w'
        go_simp
        with_reducible rfl
      rotate_left
      · simp only [Act.put, List.setIfInBounds_toArray, List.set_cons_zero, List.set_cons_succ, iJ, iK]
        rfl
      refine iM (i := 4) (N := some 29) (v := ?_) (a' := ?_) #[true, false, true, true, true, false, false] rfl rfl (iI HT_.out (by kernel_rfl)) (fun _ _ _ h => h) (Or.inl ⟨by rfl, ?_⟩) ?_ ?_
      rotate_left
      · intro w'
        go_simp
        with_reducible rfl
      rotate_left
      · simp only [Act.put, List.setIfInBounds_toArray, List.set_cons_zero, List.set_cons_succ, iJ, iK]
        rfl
      refine jH (i := 1) (N := some 26) (v := ?_) (a' := ?_) #[true, true, true, true, true, false, false] rfl rfl (iT HT_.out HW_.out (by kernel_rfl)) (fun _ _ _ h => h) (Or.inl ⟨by rfl, ?_⟩) hHeld ?_ ?_
      rotate_left
      · rintro w' ⟨s0, s1⟩
        go_simp
        with_reducible rfl
      rotate_left
      · simp only [Act.put, List.setIfInBounds_toArray, List.set_cons_zero, List.set_cons_succ, iJ, iK]
        rfl
      refine jH (i := 5) (N := some 30) (v := ?_) (a' := ?_) #[true, true, true, true, true, true, false] rfl rfl (iT HT_.out HW_.out (by kernel_rfl)) (fun _ _ _ h => h) (Or.inl ⟨by rfl, ?_⟩) hHeld ?_ ?_
      rotate_left
      · rintro w' ⟨s0, s1⟩
        go_simp
        with_reducible rfl
      rotate_left
      · simp only [Act.put, List.setIfInBounds_toArray, List.set_cons_zero, List.set_cons_succ, iJ, iK]
        rfl
      refine iM (i := 6) (N := some 31) (v := ?_) (a' := ?_) #[true, true, true, true, true, true, true] rfl rfl (iI HT_.out (by kernel_rfl)) (fun _ _ _ h => h) (Or.inl ⟨by rfl, ?_⟩) ?_ ?_
      rotate_left
      · intro w'
        go_simp
        with_reducible rfl
      rotate_left
      · simp only [Act.put, List.setIfInBounds_toArray, List.set_cons_zero, List.set_cons_succ, iJ, iK]
        rfl
      refine kP (jM HT_.out (by kernel_rfl)) ?_
      by_cases hlast : t ≤ s.last
      · have hdl : decide (t ≤ s.last) = true := decide_eq_true hlast
        have HLT := iC.mk hlast
        go_wp2
        go_ret
        unfold CS.commitE CS.commit
        rw [if_neg HCO.out, if_neg HCO.out, if_pos HLT.out, if_pos HLT.out]
        exact ⟨rfl, H1.out.below (iP (Below.refl _ _)), HF.out.trans (RoFr.of_below (iP (Below.refl _ _)) H1.out.Ble)⟩
      · have hdl : decide (t ≤ s.last) = false := decide_eq_false hlast
        have HLT := iC.mk hlast
        have hR0 := HR0.out
        rw [HM.out] at hR0
        have hwo := o9 (Kd.R_drew hR0) (H1.out.below (iP (Below.refl _ _))).Ble (by rw [List.length_map]; exact HNL.out) j
        clear hR0 HT_ HW_ hHeld
        go_wp2_with fail
        go_at_call 81
        refine hwo.mono ?_
        rintro e w2 ⟨v, rfl, hR2, hb2⟩
        have hb12 : Below w1.heap.size w1 w2 := iQ (iP (Below.refl _ _)) hb2
        have hX2 := iV hb12 HG0.out
        have hput := (H1.out.below hb12).row hX2 (s.L.eraseIdx j) (by rw [lT]; exact hR2) (H1.out.sd.sub (fun p hp => List.mem_of_mem_eraseIdx hp))
        obtain ⟨A2, c2, rfl⟩ := Kd.R_slice hR2
        have d0 := (iD hX2 0).trans (show _ = some (Value.slice (some ⟨g, 0, none⟩) s.L.length q0) from rfl)
        rw [HM.out] at d0
        have f0 := iE hX2 0
        have HPUT := iC.mk hput
        have HX2 := iC.mk (iV hb12 HX.out)
        have HF2 := iC.mk (HF.out.trans ((RoFr.of_below hb12 H1.out.Ble).trans hput.2))
        clear hwo hR2 hb2 hb12 hX2 hput c0 c1 r1 r2 y1
        go_upto_region 8 with fail
        obtain ⟨W5, hW5⟩ : ∃ W5, W5 = w2.setCell ⟨rc, 0, none⟩ (.slice A2 ((s.L.map toB).eraseIdx j).length c2) := ⟨_, rfl⟩
        obtain ⟨s1, hs1⟩ : ∃ s1, s1 = s.withL (s.L.eraseIdx j) := ⟨_, rfl⟩
        have H5 : iC (Ro W5 B rc s1) := iC.mk (by rw [hs1, hW5]; exact HPUT.out.1)
        have F5 : iC (RoFr B w W5) := iC.mk (by rw [hW5]; exact HF2.out)
        have X5 : iC (W5.heap[w.heap.size]? = some (.cells #[v0, .int .u32 id, .int .u32 t, .slice A N k, v4, v5, v6, v7, v8, v9] 48 (0, 0))) := iC.mk (by rw [hW5]; exact HPUT.out.2.keep _ _ HX2.out (fun cs t' fz e => by injection e with _ e2 _; subst e2; exact ⟨by decide, by decide⟩))
        have C5 := iC.mk (HC.out _ F5.out)
        have hcut1 : cutB s.L id = s1.L := by rw [hcut, hs1]; rfl
        have HNL1 := iC.mk (show s1.L.length ≤ 1000000 from by rw [hs1]; exact Nat.le_trans (List.length_eraseIdx_le _ _) HNL.out)
        have HS1 := iC.mk hs1
        rw [← hW5]
        clear hW5 hs1 d0 f0 HPUT HX2 HF2
        obtain ⟨A5, q5, A5', k5', g5, hR5, hS5⟩ := H5.out.blk
        obtain ⟨M5, hM5⟩ : ∃ M5, (s1).L.length = M5 := ⟨_, rfl⟩
        have HM5 := iC.mk hM5
        have HR5 := iC.mk hR5
        have HG5 := iC.mk g5
        have HS5 := iC.mk hS5
        have x1 := (iD X5.out 1).trans (show _ = some (Value.int .u32 id) from rfl)
        have x2 := (iD X5.out 2).trans (show _ = some (Value.int .u32 t) from rfl)
        have x3 := (iD X5.out 3).trans (show _ = some (Value.slice A N k) from rfl)
        have hb6 : Below W5.heap.size W5 (W5.alloc (.cells #[.int .u32 id, .int .u8 2, .int .u32 t, .slice none 0 0, .slice none 0 0, .bool false] 130)) := iF (Below.refl _ _) _
        have hsz6 := hb6.size
        have hcs := Kd.C_below C5.out hb6
        have hX6 : (W5.alloc (.cells #[.int .u32 id, .int .u8 2, .int .u32 t, .slice none 0 0, .slice none 0 0, .bool false] 130)).heap[W5.heap.size]? = some (.cells #[.int .u32 id, .int .u8 2, .int .u32 t, .slice none 0 0, .slice none 0 0, .bool false] 130 (0, 0)) := jD rfl
        have r3 := jI hb6 x3
        have HX6 := iC.mk hX6
        have e3 := (iD hX6 3).trans (show _ = some (Value.slice none 0 0) from rfl)
        clear hM5 hR5 hS5 g5 hX6
        go_wp2_with (at_builtin; (refine Kd.R_append_rows (Kd.int .i64) (w0 := W5.alloc (.cells #[.int .u32 id, .int .u8 2, .int .u32 t, .slice none 0 0, .slice none 0 0, .bool false] 130)) (W5.alloc (.cells #[.int .u32 id, .int .u8 2, .int .u32 t, .slice none 0 0, .slice none 0 0, .bool false] 130)).heap.size rfl (.tmp 50) (.tmp 52) 25 3 (.int .i64 0) 8 rfl Try.underlying25 oO rfl (by decide) (by omega) (.slice none 0 0) [] l _ _ _ (fun _ => True) (fun _ => False) rfl rfl (Kd.R_nil _ _ _ _ _) hcs (fun _ _ h => h) (fun _ h => h.elim) (fun _ _ => trivial) (Below.refl _ _) (Nat.le_refl _) (by simp only [List.length_nil]; omega) ?_; intro v7 w7 ho7 hb7 hg7 _; rw [List.nil_append] at ho7; obtain ⟨A7, c7, rfl⟩ := Kd.R_slice ho7; rw [HN.out] at ho7 ⊢; have hX7 := iV hb7 HX6.out; have e37 := (iD hX7 3).trans (show _ = some (Value.slice none 0 0) from rfl); have f37 := iE hX7 3; have HX7 := iC.mk hX7; have HO7 := iC.mk ho7; have HB7 := iC.mk hb7; clear ho7 hb7 hg7 hX7 hcs e3))
        obtain ⟨gb, hgb⟩ : ∃ gb, gb = W5.heap.size := ⟨_, rfl⟩
        obtain ⟨W8, hW8⟩ : ∃ W8, W8 = w7.setCell ⟨W5.heap.size, 3, none⟩ (.slice A7 N c7) := ⟨_, rfl⟩
        have hg8 := kM w7 W5.heap.size 3 (.slice A7 N c7)
        have hX8 : W8.heap[gb]? = some (.cells #[.int .u32 id, .int .u8 2, .int .u32 t, .slice A7 N c7, .slice none 0 0, .bool false] 130 (0, 0)) := by rw [hW8, hgb]; exact iZ HX7.out 3 _ rfl
        have hb8 : Below W5.heap.size W5 W8 := by
          rw [hW8]
          exact (hb6.trans (HB7.out.mono hsz6)).grown hg8 (Nat.le_trans hsz6 HB7.out.size) (fun j hj => by cases hj; exact Nat.le_refl _)
        have hR8 : (Kd.int .i64).R 3 W8 (W5.alloc (.cells #[.int .u32 id, .int .u8 2, .int .u32 t, .slice none 0 0, .slice none 0 0, .bool false] 130)).heap.size (fun _ => True) (.slice A7 N c7) l := by rw [hW8]; exact Kd.R_set HO7.out HX7.out (by decide) 3 _
        have h8 := H5.out.below hb8
        rw [← hW8, ← hgb]
        have hM : kB.M W8 B (fun _ => True) (toB (id, ⟨2, t, l, [], false⟩)) [.int .u32 id, .int .u8 2, .int .u32 t, .slice A7 N c7, .slice none 0 0, .bool false] := J.k130_mkM W8 B _ (toB (id, ⟨2, t, l, [], false⟩)) (Kd.R_lower hR8 (Nat.le_trans H5.out.Ble hsz6)) (Kd.R_nil _ _ _ _ _)
        have hRr := Kd.R_below HR5.out hb8
        have hMo := zL hM hRr
        rw [HM5.out] at hRr hMo
        have HM8 := iC.mk hMo
        have HR8 := iC.mk hRr
        have HB8 := iC.mk hb8
        have HX8 := iC.mk hX8
        have HRC := iC.mk (iV hb8 HG5.out)
        have HXR := iC.mk (iV hb8 X5.out)
        have HS8 := iC.mk h8
        have t0 := (iD HRC.out 0).trans (show _ = some (Value.slice A5 (s1).L.length q5) from rfl)
        rw [HM5.out] at t0
        have p0 := (iD hX8 0).trans (show _ = some (Value.int .u32 id) from rfl)
        have p1 := (iD hX8 1).trans (show _ = some (Value.int .u8 2) from rfl)
        have p2 := (iD hX8 2).trans (show _ = some (Value.int .u32 t) from rfl)
        have p3 := (iD hX8 3).trans (show _ = some (Value.slice A7 N c7) from rfl)
        have p4 := (iD hX8 4).trans (show _ = some (Value.slice none 0 0) from rfl)
        have p5 := (iD hX8 5).trans (show _ = some (Value.bool false) from rfl)
        clear hgb hW8 hg8 hX8 hb8 hR8 h8 hM hRr hMo x1 x2 x3 r3 hb6 hsz6 e37 f37 HX7 HO7 HB7 HX6
        refine jQ (n := 11) (S := fun w' => w'.cell? ⟨rc, 0, none⟩ = some (.slice A5 M5 q5) ∧ w'.cell? ⟨gb, 0, none⟩ = some (.int .u32 id) ∧ w'.cell? ⟨gb, 1, none⟩ = some (.int .u8 2) ∧ w'.cell? ⟨gb, 2, none⟩ = some (.int .u32 t) ∧ w'.cell? ⟨gb, 3, none⟩ = some (.slice A7 N c7) ∧ w'.cell? ⟨gb, 4, none⟩ = some (.slice none 0 0) ∧ w'.cell? ⟨gb, 5, none⟩ = some (.bool false)) (ds := [7, 8, 9, 10]) #[false, false, false, false, false, false, false, false, false, false, false] (by kernel_rfl) rfl rfl ⟨t0, p0, p1, p2, p3, p4, p5⟩ (fun hHeld => ?_)
        refine jE (T := (true, [([], []), ([], []), ([1], [1]), ([2], [2]), ([3], [3]), ([], []), ([5], [5]), ([4, 6], [4, 6]), ([0, 0, 1, 2, 3, 4, 5, 6, 7], [0]), ([8, 0, 1, 2, 3, 4, 5, 6, 7], [8]), ([9, 7, 7, 0, 1, 2, 3, 4, 5, 6, 7], [7, 9])])) (B := [0, 0, 2, 6, 14, 0, 32, 126, 255, 511, 1023]) (by kernel_rfl) (by kernel_rfl) (fun HT_ HW_ => ?_)
        refine iM (i := 0) (N := some 55) (v := ?_) (a' := ?_) #[true, false, false, false, false, false, false, false, false, false, false] rfl rfl (iI HT_.out (by kernel_rfl)) (fun _ _ _ h => h) (Or.inl ⟨by rfl, ?_⟩) ?_ ?_
        rotate_left
        · intro w'
          go_simp
          with_reducible rfl
        rotate_left
        · simp only [Act.put, List.setIfInBounds_toArray, List.set_cons_zero, List.set_cons_succ, iJ, iK]
          rfl
        refine iM (i := 1) (N := some 56) (v := ?_) (a' := ?_) #[true, true, false, false, false, false, false, false, false, false, false] rfl rfl (iI HT_.out (by kernel_rfl)) (fun _ _ _ h => h) (Or.inl ⟨by rfl, ?_⟩) ?_ ?_
        rotate_left
        · intro w'
          go_simp
          with_reducible rfl
        rotate_left
        · simp only [Act.put, List.setIfInBounds_toArray, List.set_cons_zero, List.set_cons_succ, iJ, iK]
          rfl
        refine iM (i := 2) (N := some 57) (v := ?_) (a' := ?_) #[true, true, true, false, false, false, false, false, false, false, false] rfl rfl (iI HT_.out (by kernel_rfl)) (fun _ _ _ h => h) (Or.inl ⟨by rfl, ?_⟩) ?_ ?_
        rotate_left
        · intro w'
          go_simp
          with_reducible rfl
        rotate_left
        · simp only [Act.put, List.setIfInBounds_toArray, List.set_cons_zero, List.set_cons_succ, iJ, iK]
          rfl
        refine iM (i := 3) (N := some 58) (v := ?_) (a' := ?_) #[true, true, true, true, false, false, false, false, false, false, false] rfl rfl (iI HT_.out (by kernel_rfl)) (fun _ _ _ h => h) (Or.inl ⟨by rfl, ?_⟩) ?_ ?_
        rotate_left
        · intro w'
          go_simp
          with_reducible rfl
        rotate_left
        · simp only [Act.put, List.setIfInBounds_toArray, List.set_cons_zero, List.set_cons_succ, iJ, iK]
          rfl
        refine jH (i := 4) (N := some 59) (v := ?_) (a' := ?_) #[true, true, true, true, true, false, false, false, false, false, false] rfl rfl (iT HT_.out HW_.out (by kernel_rfl)) (fun _ _ _ h => h) (Or.inl ⟨by rfl, ?_⟩) hHeld ?_ ?_
        rotate_left
        · rintro w' ⟨s0, s1, s2, s3, s4, s5, s6⟩
          go_simp
          with_reducible rfl
        rotate_left
        · simp only [Act.put, List.setIfInBounds_toArray, List.set_cons_zero, List.set_cons_succ, iJ, iK]
          rfl
        refine jH (i := 5) (N := some 60) (v := ?_) (a' := ?_) #[true, true, true, true, true, true, false, false, false, false, false] rfl rfl (iT HT_.out HW_.out (by kernel_rfl)) (fun _ _ _ h => h) (Or.inl ⟨by rfl, ?_⟩) hHeld ?_ ?_
        rotate_left
        · rintro w' ⟨s0, s1, s2, s3, s4, s5, s6⟩
          go_simp
          with_reducible rfl
        rotate_left
        · simp only [Act.put, List.setIfInBounds_toArray, List.set_cons_zero, List.set_cons_succ, iJ, iK]
          rfl
        refine one_ (i := 6) (N := some 61) #[true, true, true, true, true, true, true, false, false, false, false] rfl rfl (jK HT_.out (by kernel_rfl)) (by decide) (fun K hK => ?_)
        refine mV (w1 := ?_) (v := ?_) (by rfl) rfl ?_ ?_
        rotate_left 2
        · go_simp
          constructor
          · rfl
          · rfl
        refine hK.out _ _ ⟨(iD (iO (w := W8.drew) HRC.out _) 0).trans (by rw [← HM5.out]; rfl), (iD (iO (w := W8.drew) HX8.out _) 0).trans rfl, (iD (iO (w := W8.drew) HX8.out _) 1).trans rfl, (iD (iO (w := W8.drew) HX8.out _) 2).trans rfl, (iD (iO (w := W8.drew) HX8.out _) 3).trans rfl, (iD (iO (w := W8.drew) HX8.out _) 4).trans rfl, (iD (iO (w := W8.drew) HX8.out _) 5).trans rfl⟩ (fun hHeld => ?_)
        clear hK K
        refine kC (a' := ?_) ?_ ?_
        rotate_left
        · show Act.put _ (some 61) _ = _
          simp only [Act.put, List.setIfInBounds_toArray, List.set_cons_zero, List.set_cons_succ, iJ, iK]
          rfl
        refine mQ (i := 7) (N := some 62) #[true, true, true, true, true, true, true, true, false, false, false] rfl rfl (jK HT_.out (by kernel_rfl)) (by decide) (fun K hK => ?_)
        refine Kd.R_append_step kB (w0 := W8.drew) B (by rfl) (.tmp 59) (.tmp 61) 107 130 (.agg #[.int .u32 0, .int .u8 0, .int .u32 0, .slice none 0 0, .slice none 0 0, .bool false]) 72 rfl Try.underlying107 uH rfl (by decide) (by decide) (.slice A5 M5 q5) (s1.L.map toB) (toB (id, ⟨2, t, l, [], false⟩)) [.int .u32 id, .int .u8 2, .int .u32 t, .slice A7 N c7, .slice none 0 0, .bool false] (fun _ => True) (fun j => some j ≠ (Value.slice A5 M5 q5).ownBlock) rfl rfl (Kd.M_below HM8.out (iP (Below.refl _ _))) (fun j hj => ⟨trivial, hj⟩) (fun _ _ => trivial) (Kd.R_drew HR8.out) (Below.refl _ _) (HS8.out.below (iP (Below.refl _ _))).Ble (by rw [List.length_map]; have := HNL1.out; omega) ?_
        intro v9 w9 ho hb9 hg9 hat
        obtain ⟨A9, c9, rfl⟩ := Kd.R_slice ho
        have HO9 := iC.mk ho
        have hf9 := RoFr.of_row (Kd.R_drew HR8.out) (HS8.out.below (iP (Below.refl _ _))).Ble hg9
        have HF9 := iC.mk hf9
        have hrc9 := jR (w := W8.drew) (g := rc) HRC.out hg9 (Kd.R_ne HR8.out HRC.out (by decide))
        have HRC9 := iC.mk hrc9
        have hs9 := (iD hrc9 0).trans (show _ = some (Value.slice A5 (s1).L.length q5) from rfl)
        have hz9 := iE hrc9 0
        clear ho hb9 hg9 hat hf9 hrc9
        refine hK.out _ _ ?_
        clear hK K
        refine kC (a' := ?_) ?_ ?_
        rotate_left
        · show Act.put _ (some 62) _ = _
          simp only [Act.put, List.setIfInBounds_toArray, List.set_cons_zero, List.set_cons_succ, iJ, iK]
          rfl
        refine iM (i := 8) (N := some 63) (v := ?_) (a' := ?_) #[true, true, true, true, true, true, true, true, true, false, false] rfl rfl (iI HT_.out (by kernel_rfl)) (fun _ _ _ h => h) (Or.inl ⟨by rfl, ?_⟩) ?_ ?_
        rotate_left
        · intro w'
          go_simp
          with_reducible rfl
        rotate_left
        · simp only [Act.put, List.setIfInBounds_toArray, List.set_cons_zero, List.set_cons_succ, iJ, iK]
          rfl
        refine iM (i := 9) (N := some 64) (v := ?_) (a' := ?_) #[true, true, true, true, true, true, true, true, true, true, false] rfl rfl (iI HT_.out (by kernel_rfl)) (fun _ _ _ h => h) (Or.inl ⟨by rfl, ?_⟩) ?_ ?_
        rotate_left
        · intro w'
          go_simp
          with_reducible rfl
        rotate_left
        · simp only [Act.put, List.setIfInBounds_toArray, List.set_cons_zero, List.set_cons_succ, iJ, iK]
          rfl
        refine mQ (i := 10) (N := none) #[true, true, true, true, true, true, true, true, true, true, true] rfl rfl (jK HT_.out (by kernel_rfl)) (by decide) (fun K hK => ?_)
        refine mX (w1 := ?_) (by rfl) rfl ?_ ?_
        rotate_left
        · go_simp
          rfl
        refine hK.out _ _ ?_
        clear hK K
        refine kP (jM HT_.out (by kernel_rfl)) ?_
        obtain ⟨W10, hW10⟩ : ∃ W10, W10 = w9.setCell ⟨rc, 0, none⟩ (.slice A9 ((s1).L.length + 1) c9) := ⟨_, rfl⟩
        have ho9 := HO9.out
        rw [show ((s1).L.map toB ++ [toB (id, ⟨2, t, l, [], false⟩)]).length = (s1).L.length + 1 from by rw [List.length_append, List.length_map]; rfl] at ho9
        have hS9 := HF9.out.rows (Kd.R_drew (Kd.R_below HS5.out HB8.out)) (fun z hz => by (obtain rfl : z = 96 := (by simpa [show kS.E = [] from rfl] using hz)); exact (by decide))
        have hrow := Ro.row0 (s := s1) H5.out.cB (Nat.le_trans (HS8.out.below (iP (Below.refl _ _))).Ble HF9.out.size) HRC9.out hS9 ((s1).L ++ [(id, ⟨2, t, l, [], false⟩)]) (by rw [List.map_append]; exact ho9) (H5.out.sd.push id 2 t HR.out)
        rw [← hW10] at hrow
        rw [← hW10]
        have hx10 := hrow.2.keep _ _ (HF9.out.keep _ _ (show W8.drew.heap[w.heap.size]? = _ from HXR.out) (fun cs t' fz e => by injection e with _ e2 _; subst e2; exact ⟨by decide, by decide⟩)) (fun cs t' fz e => by injection e with _ e2 _; subst e2; exact ⟨by decide, by decide⟩)
        have y2 := (iD hx10 2).trans (show _ = some (Value.int .u32 t) from rfl)
        obtain ⟨Az, qz, Az', kz', gz, _, _⟩ := hrow.1.blk
        have yc := (iD gz 1).trans (show _ = some (Value.int .u32 (s1).last) from rfl)
        have yf := iE gz 1
        have hnum := hrow.1.num (⟨(s1).L ++ [(id, ⟨2, t, l, [], false⟩)], t, (s1).starts, (s1).begun, (s1).ep, (s1).sp⟩ : CS) rfl rfl (i := 0) (x := .int .u32 t) (fun _ _ => rfl)
        have HNUM := iC.mk hnum
        have HFF := iC.mk (F5.out.trans ((RoFr.of_below HB8.out H5.out.Ble).trans ((RoFr.of_below (iP (Below.refl _ _)) HS8.out.Ble).trans (HF9.out.trans hrow.2))))
        clear hW10 hS9 hrow hx10 gz hnum HT_ HW_ hHeld t0 p0 p1 p2 p3 p4 p5 hs9 hz9
        go_wp2
        go_ret
        unfold CS.commitE CS.commit
        rw [if_neg HCO.out, if_neg HCO.out, if_neg (by have := HLT.out; omega), if_neg (by have := HLT.out; omega), hcut1]
        have e1 : s1.last = s.last := by rw [HS1.out]; rfl
        have e2 : s1.starts = s.starts ∧ s1.begun = s.begun ∧ s1.ep = s.ep ∧ s1.sp = s.sp := by rw [HS1.out]; exact ⟨rfl, rfl, rfl, rfl⟩
        rw [← e2.1, ← e2.2.1, ← e2.2.2.1, ← e2.2.2.2]
        exact ⟨rfl, HNUM.out.1, HFF.out.trans HNUM.out.2⟩
end Go.Proofs.Ytjppookmjdaplaa.K
end

section
namespace Go.Proofs.Ytjppookmjdaplaa.K
open Go Go.RowKit Go.Maps Go.Proofs.YtjppookmjdaplaaW.PrintWords Go.Proofs.YtjppookmjdaplaaW.PrintLast Go.Proofs.YtjppookmjdaplaaW.PrintMore Go.Proofs.Ytjppookmjdaplaa.My
attribute [-go_sem] Instr.build
attribute [local go_sem] MS LY
def CS.up (s : CS) : CS := ⟨s.L, s.last, s.starts, s.begun + 1, s.ep, s.sp⟩
theorem ND (w : World) (k : Int) : (Instr.build 36 #[(0, .int .u8 k)]).run Try.prog w = .ok (.agg #[.int .u8 k, .int .u32 0]) w := run_build w 36 _ _ (by kernel_rfl)
attribute [local go_sem] ND
set_option maxRecDepth 20000 in
set_option maxHeartbeats 8000000 in
theorem yB {w : World} {B rc : Nat} {s : CS} (h : Ro w B rc s) (hok : s.Ok) (hn : s.L.length ≤ 1000000) {A : Option Addr} {k : Nat} {l : List Int} (hr : ∀ W', RoFr B w W' → (Kd.int .i64).C W' A l.length l) (hc : l.length ≤ k) (hlm : l.length ≤ 140737488355328) :
    Calls Try.prog 58 #[.pointer (some ⟨rc, 0, none⟩), .slice A l.length k] w fun e w' => e = .returned (.tuple #[.int .u32 (s.beginId l).1, .int .i64 (s.beginId l).2]) ∧ Ro w' B rc (s.begin_ l) ∧ RoFr B w w' := by
  have hrg := xO A k l w (hr w (RoFr.refl _ _)) hc hlm
  have HC := iC.mk hr
  have HO := iC.mk hok
  have HNL := iC.mk hn
  have HH := iC.mk h
  obtain ⟨N, hN⟩ : ∃ N, l.length = N := ⟨_, rfl⟩
  have HN := iC.mk hN
  rw [hN] at hc hlm hrg HC ⊢
  clear h hok hn hr hN
  go_enter Try.func58, Try.ntmps58
  go_wp2_with fail
  go_at_call 77
  refine hrg.mono ?_
  rintro e w1 ⟨rfl, hb1⟩
  have H1 := iC.mk (HH.out.below hb1)
  have HF1 := iC.mk (RoFr.of_below hb1 HH.out.Ble)
  clear hrg hb1
  by_cases hrt : kW l = true
  · have HRT := iC.mk hrt
    obtain ⟨A0, q0, A0', k0', g0, _, _⟩ := H1.out.blk
    have c3 := (iD g0 3).trans (show _ = some (Value.int .u32 s.begun) from rfl)
    have f3 := iE g0 3
    rw [hrt]
    clear g0 hrt
    by_cases h9 : 900 ≤ s.begun
    · have hd9 : decide (900 ≤ s.begun) = true := decide_eq_true h9
      have H9 := iC.mk h9
      have HE := iC.mk (And.intro (show s.beginId l = (0, 3) from by unfold CS.beginId; rw [if_neg (by simp [HRT.out]), if_pos h9]) (show s.begin_ l = s from by unfold CS.begin_; rw [if_neg (by simp [HRT.out]), if_pos h9]))
      go_wp2
      go_ret2
      rw [HE.out.1, HE.out.2]
      exact ⟨rfl, H1.out, HF1.out⟩
    · have hd9 : decide (900 ≤ s.begun) = false := decide_eq_false h9
      have H9 := iC.mk h9
      have hbg := HO.out.begun
      have hst := HO.out.starts
      obtain ⟨b1, hb1⟩ : ∃ b1, b1 = s.begun + 1 := ⟨_, rfl⟩
      have e1 : (s.begun + 1) % 4294967296 = b1 := by omega
      obtain ⟨id, hid⟩ : ∃ id, id = s.starts * 1000 + b1 := ⟨_, rfl⟩
      have e2 : IntKind.u32.wrap (IntKind.u32.wrap (s.starts * 1000) + b1) = id := by simp only [IntKind.wrap, IntKind.signed, IntKind.bits]; simp; omega
      have HB1 := iC.mk hb1
      have HID := iC.mk hid
      have E2 := iC.mk e2
      clear hb1 hid e2 hbg hst
      go_upto_region 6 with fail
      obtain ⟨W5, hW5⟩ : ∃ W5, W5 = w1.setCell ⟨rc, 3, none⟩ (.int .u32 b1) := ⟨_, rfl⟩
      have hnum := H1.out.num s.up rfl rfl (i := 2) (x := .int .u32 b1) (fun _ _ => by rw [HB1.out]; rfl)
      have H5 : iC (Ro W5 B rc s.up) := iC.mk (by rw [hW5]; exact hnum.1)
      have F5 : iC (RoFr B w W5) := iC.mk (HF1.out.trans (by rw [hW5]; exact hnum.2))
      obtain ⟨A5, q5, A5', k5', g5, _, _⟩ := H5.out.blk
      have t2 := (iD g5 2).trans (show _ = some (Value.int .u32 s.starts) from rfl)
      have t3 := (iD g5 3).trans (show _ = some (Value.int .u32 (s.begun + 1)) from rfl)
      rw [← HB1.out] at t3
      have hfd := oM (H5.out.below (iP (Below.refl _ _))) (show (keysB s.up.L).Nodup from HO.out.nd) (IntKind.u32.wrap (IntKind.u32.wrap (s.starts * 1000) + b1))
      rw [← hW5]
      clear hW5 hnum g5 c3 f3 e1
      refine jQ (n := 13) (S := fun w' => w'.cell? ⟨rc, 2, none⟩ = some (.int .u32 s.starts) ∧ w'.cell? ⟨rc, 3, none⟩ = some (.int .u32 b1)) (ds := []) #[false, false, false, false, false, false, false, false, false, false, false, false, false] (by kernel_rfl) rfl rfl ⟨t2, t3⟩ (fun hHeld => ?_)
      refine jE (T := (true, [([], []), ([], []), ([1], [1]), ([2], [2]), ([3], [3]), ([4], [4]), ([], []), ([6], [6]), ([7], [7]), ([8], [8]), ([5, 9], [5, 9]), ([0, 10], [0, 10]), ([11], [11])])) (B := [0, 0, 2, 6, 14, 30, 0, 64, 192, 448, 1022, 2047, 4095]) (by kernel_rfl) (by kernel_rfl) (fun HT_ HW_ => ?_)
      refine iM (i := 0) (N := some 22) (v := ?_) (a' := ?_) #[true, false, false, false, false, false, false, false, false, false, false, false, false] rfl rfl (iI HT_.out (by kernel_rfl)) (fun _ _ _ h => h) (Or.inl ⟨by rfl, ?_⟩) ?_ ?_
      rotate_left
      · intro w'
        go_simp
        with_reducible rfl
      rotate_left
      · simp only [Act.put, List.setIfInBounds_toArray, List.set_cons_zero, List.set_cons_succ, iJ, iK]
        rfl
      refine iM (i := 1) (N := some 23) (v := ?_) (a' := ?_) #[true, true, false, false, false, false, false, false, false, false, false, false, false] rfl rfl (iI HT_.out (by kernel_rfl)) (fun _ _ _ h => h) (Or.inl ⟨by rfl, ?_⟩) ?_ ?_
      rotate_left
      · intro w'
        go_simp
        with_reducible rfl
      rotate_left
      · simp only [Act.put, List.setIfInBounds_toArray, List.set_cons_zero, List.set_cons_succ, iJ, iK]
        rfl
      refine iM (i := 2) (N := some 24) (v := ?_) (a' := ?_) #[true, true, true, false, false, false, false, false, false, false, false, false, false] rfl rfl (iI HT_.out (by kernel_rfl)) (fun _ _ _ h => h) (Or.inl ⟨by rfl, ?_⟩) ?_ ?_
      rotate_left
      · intro w'
        go_simp
        with_reducible rfl
      rotate_left
      · simp only [Act.put, List.setIfInBounds_toArray, List.set_cons_zero, List.set_cons_succ, iJ, iK]
        rfl
      refine iM (i := 3) (N := some 25) (v := ?_) (a' := ?_) #[true, true, true, true, false, false, false, false, false, false, false, false, false] rfl rfl (iI HT_.out (by kernel_rfl)) (fun _ _ _ h => h) (Or.inl ⟨by rfl, ?_⟩) ?_ ?_
      rotate_left
      · intro w'
        go_simp
        with_reducible rfl
      rotate_left
      · simp only [Act.put, List.setIfInBounds_toArray, List.set_cons_zero, List.set_cons_succ, iJ, iK]
        rfl
      refine iM (i := 6) (N := some 28) (v := ?_) (a' := ?_) #[true, true, true, true, false, false, true, false, false, false, false, false, false] rfl rfl (iI HT_.out (by kernel_rfl)) (fun _ _ _ h => h) (Or.inl ⟨by rfl, ?_⟩) ?_ ?_
      rotate_left
      · intro w'
        go_simp
        with_reducible rfl
      rotate_left
      · simp only [Act.put, List.setIfInBounds_toArray, List.set_cons_zero, List.set_cons_succ, iJ, iK]
        rfl
      refine iM (i := 7) (N := some 29) (v := ?_) (a' := ?_) #[true, true, true, true, false, false, true, true, false, false, false, false, false] rfl rfl (iI HT_.out (by kernel_rfl)) (fun _ _ _ h => h) (Or.inl ⟨by rfl, ?_⟩) ?_ ?_
      rotate_left
      · intro w'
        go_simp
        with_reducible rfl
      rotate_left
      · simp only [Act.put, List.setIfInBounds_toArray, List.set_cons_zero, List.set_cons_succ, iJ, iK]
        rfl
      refine iM (i := 8) (N := some 30) (v := ?_) (a' := ?_) #[true, true, true, true, false, false, true, true, true, false, false, false, false] rfl rfl (iI HT_.out (by kernel_rfl)) (fun _ _ _ h => h) (Or.inl ⟨by rfl, ?_⟩) ?_ ?_
      rotate_left
      · intro w'
        go_simp
        with_reducible rfl
      rotate_left
      · simp only [Act.put, List.setIfInBounds_toArray, List.set_cons_zero, List.set_cons_succ, iJ, iK]
        rfl
      refine jH (i := 4) (N := some 26) (v := ?_) (a' := ?_) #[true, true, true, true, true, false, true, true, true, false, false, false, false] rfl rfl (iT HT_.out HW_.out (by kernel_rfl)) (fun _ _ _ h => h) (Or.inl ⟨by rfl, ?_⟩) hHeld ?_ ?_
      rotate_left
      · rintro w' ⟨s0, s1⟩
        go_simp
        with_reducible rfl
      rotate_left
      · simp only [Act.put, List.setIfInBounds_toArray, List.set_cons_zero, List.set_cons_succ, iJ, iK]
        rfl
      refine iM (i := 5) (N := some 27) (v := ?_) (a' := ?_) #[true, true, true, true, true, true, true, true, true, false, false, false, false] rfl rfl (iI HT_.out (by kernel_rfl)) (fun _ _ _ h => h) (Or.inl ⟨by rfl, ?_⟩) ?_ ?_
      rotate_left
      · intro w'
        go_simp
        with_reducible rfl
      rotate_left
      · simp only [Act.put, List.setIfInBounds_toArray, List.set_cons_zero, List.set_cons_succ, iJ, iK]
        rfl
      refine jH (i := 9) (N := some 31) (v := ?_) (a' := ?_) #[true, true, true, true, true, true, true, true, true, true, false, false, false] rfl rfl (iT HT_.out HW_.out (by kernel_rfl)) (fun _ _ _ h => h) (Or.inl ⟨by rfl, ?_⟩) hHeld ?_ ?_
      rotate_left
      · rintro w' ⟨s0, s1⟩
        go_simp
        with_reducible rfl
      rotate_left
      · simp only [Act.put, List.setIfInBounds_toArray, List.set_cons_zero, List.set_cons_succ, iJ, iK]
        rfl
      refine iM (i := 10) (N := some 32) (v := ?_) (a' := ?_) #[true, true, true, true, true, true, true, true, true, true, true, false, false] rfl rfl (iI HT_.out (by kernel_rfl)) (fun _ _ _ h => h) (Or.inl ⟨by rfl, ?_⟩) ?_ ?_
      rotate_left
      · intro w'
        go_simp
        with_reducible rfl
      rotate_left
      · simp only [Act.put, List.setIfInBounds_toArray, List.set_cons_zero, List.set_cons_succ, iJ, iK]
        rfl
      refine one_ (i := 11) (N := some 33) #[true, true, true, true, true, true, true, true, true, true, true, true, false] rfl rfl (jK HT_.out (by kernel_rfl)) (by decide) (fun K hK => ?_)
      refine l7 Try.func78 (by kernel_rfl) rfl #[.pointer (some ⟨rc, 0, none⟩), .int .u32 (IntKind.u32.wrap (IntKind.u32.wrap (s.starts * 1000) + b1))] (by rfl) rfl rfl (by simp only [List.map_toArray, List.map_cons, List.map_nil]; rfl) ?_
      with_reducible refine (hfd).mono ?_
      rintro e w2 ⟨i, rfl, rfl, hA⟩
      refine ⟨_, rfl, ?_⟩
      rw [E2.out] at hA
      clear hfd
      refine hK.out _ _ ⟨t2, t3⟩ (fun hHeld => ?_)
      clear hK K
      refine kC (a' := ?_) ?_ ?_
      rotate_left
      · show Act.put _ (some 33) _ = _
        simp only [Act.put, List.setIfInBounds_toArray, List.set_cons_zero, List.set_cons_succ, iJ, iK]
        rfl
      refine iM (i := 12) (N := some 34) (v := ?_) (a' := ?_) #[true, true, true, true, true, true, true, true, true, true, true, true, true] rfl rfl (iI HT_.out (by kernel_rfl)) (fun _ _ _ h => h) (Or.inl ⟨by rfl, ?_⟩) ?_ ?_
      rotate_left
      · intro w'
        go_simp
        with_reducible rfl
      rotate_left
      · simp only [Act.put, List.setIfInBounds_toArray, List.set_cons_zero, List.set_cons_succ, iJ, iK]
        rfl
      refine kP (jM HT_.out (by kernel_rfl)) ?_
      have HID2 := iC.mk (show s.starts * 1000 + (s.begun + 1) = id from by rw [HID.out, HB1.out])
      rcases hA with ⟨rfl, hg⟩ | ⟨kk, b, rfl, hk, hg⟩
      · have HG := iC.mk hg
        clear hg HT_ HW_ hHeld
        go_upto_region 8 with fail
        refine jQ (n := 14) (S := fun w' => w'.cell? ⟨rc, 2, none⟩ = some (.int .u32 s.starts) ∧ w'.cell? ⟨rc, 3, none⟩ = some (.int .u32 b1)) (ds := [13]) #[false, false, false, false, false, false, false, false, false, false, false, false, false, false] (by kernel_rfl) rfl rfl ⟨t2, t3⟩ (fun hHeld => ?_)
        refine jE (T := (true, [([], []), ([0], [0]), ([1], [1]), ([2], [2]), ([3], [3]), ([], []), ([5], [5]), ([6], [6]), ([7], [7]), ([4, 8], [4, 8]), ([], []), ([9, 10], [9, 10]), ([], []), ([12, 11, 0, 1, 2, 3, 4, 5, 6, 7, 8, 9, 10, 11, 12], [11, 12])])) (B := [0, 1, 3, 7, 15, 0, 32, 96, 224, 511, 0, 2047, 0, 8191]) (by kernel_rfl) (by kernel_rfl) (fun HT_ HW_ => ?_)
        refine iM (i := 0) (N := some 35) (v := ?_) (a' := ?_) #[true, false, false, false, false, false, false, false, false, false, false, false, false, false] rfl rfl (iI HT_.out (by kernel_rfl)) (fun _ _ _ h => h) (Or.inl ⟨by rfl, ?_⟩) ?_ ?_
        rotate_left
        · intro w'
          go_simp
          with_reducible rfl
        rotate_left
        · simp only [Act.put, List.setIfInBounds_toArray, List.set_cons_zero, List.set_cons_succ, iJ, iK]
          rfl
        refine iM (i := 1) (N := some 36) (v := ?_) (a' := ?_) #[true, true, false, false, false, false, false, false, false, false, false, false, false, false] rfl rfl (iI HT_.out (by kernel_rfl)) (fun _ _ _ h => h) (Or.inl ⟨by rfl, ?_⟩) ?_ ?_
        rotate_left
        · intro w'
          go_simp
          with_reducible rfl
        rotate_left
        · simp only [Act.put, List.setIfInBounds_toArray, List.set_cons_zero, List.set_cons_succ, iJ, iK]
          rfl
        refine iM (i := 2) (N := some 37) (v := ?_) (a' := ?_) #[true, true, true, false, false, false, false, false, false, false, false, false, false, false] rfl rfl (iI HT_.out (by kernel_rfl)) (fun _ _ _ h => h) (Or.inl ⟨by rfl, ?_⟩) ?_ ?_
        rotate_left
        · intro w'
          go_simp
          with_reducible rfl
        rotate_left
        · simp only [Act.put, List.setIfInBounds_toArray, List.set_cons_zero, List.set_cons_succ, iJ, iK]
          rfl
        refine iM (i := 5) (N := some 40) (v := ?_) (a' := ?_) #[true, true, true, false, false, true, false, false, false, false, false, false, false, false] rfl rfl (iI HT_.out (by kernel_rfl)) (fun _ _ _ h => h) (Or.inl ⟨by rfl, ?_⟩) ?_ ?_
        rotate_left
        · intro w'
          go_simp
          with_reducible rfl
        rotate_left
        · simp only [Act.put, List.setIfInBounds_toArray, List.set_cons_zero, List.set_cons_succ, iJ, iK]
          rfl
        refine iM (i := 6) (N := some 41) (v := ?_) (a' := ?_) #[true, true, true, false, false, true, true, false, false, false, false, false, false, false] rfl rfl (iI HT_.out (by kernel_rfl)) (fun _ _ _ h => h) (Or.inl ⟨by rfl, ?_⟩) ?_ ?_
        rotate_left
        · intro w'
          go_simp
          with_reducible rfl
        rotate_left
        · simp only [Act.put, List.setIfInBounds_toArray, List.set_cons_zero, List.set_cons_succ, iJ, iK]
          rfl
        refine iM (i := 7) (N := some 42) (v := ?_) (a' := ?_) #[true, true, true, false, false, true, true, true, false, false, false, false, false, false] rfl rfl (iI HT_.out (by kernel_rfl)) (fun _ _ _ h => h) (Or.inl ⟨by rfl, ?_⟩) ?_ ?_
        rotate_left
        · intro w'
          go_simp
          with_reducible rfl
        rotate_left
        · simp only [Act.put, List.setIfInBounds_toArray, List.set_cons_zero, List.set_cons_succ, iJ, iK]
          rfl
        refine iM (i := 10) (N := some 45) (v := ?_) (a' := ?_) #[true, true, true, false, false, true, true, true, false, false, true, false, false, false] rfl rfl (iI HT_.out (by kernel_rfl)) (fun _ _ _ h => h) (Or.inl ⟨by rfl, ?_⟩) ?_ ?_
        rotate_left
        · intro w'
          go_simp
          with_reducible rfl
        rotate_left
        · simp only [Act.put, List.setIfInBounds_toArray, List.set_cons_zero, List.set_cons_succ, iJ, iK]
          rfl
        refine jH (i := 3) (N := some 38) (v := ?_) (a' := ?_) #[true, true, true, true, false, true, true, true, false, false, true, false, false, false] rfl rfl (iT HT_.out HW_.out (by kernel_rfl)) (fun _ _ _ h => h) (Or.inl ⟨by rfl, ?_⟩) hHeld ?_ ?_
        rotate_left
        · rintro w' ⟨s0, s1⟩
          go_simp
          with_reducible rfl
        rotate_left
        · simp only [Act.put, List.setIfInBounds_toArray, List.set_cons_zero, List.set_cons_succ, iJ, iK]
          rfl
        refine iM (i := 4) (N := some 39) (v := ?_) (a' := ?_) #[true, true, true, true, true, true, true, true, false, false, true, false, false, false] rfl rfl (iI HT_.out (by kernel_rfl)) (fun _ _ _ h => h) (Or.inl ⟨by rfl, ?_⟩) ?_ ?_
        rotate_left
        · intro w'
          go_simp
          with_reducible rfl
        rotate_left
        · simp only [Act.put, List.setIfInBounds_toArray, List.set_cons_zero, List.set_cons_succ, iJ, iK]
          rfl
        refine jH (i := 8) (N := some 43) (v := ?_) (a' := ?_) #[true, true, true, true, true, true, true, true, true, false, true, false, false, false] rfl rfl (iT HT_.out HW_.out (by kernel_rfl)) (fun _ _ _ h => h) (Or.inl ⟨by rfl, ?_⟩) hHeld ?_ ?_
        rotate_left
        · rintro w' ⟨s0, s1⟩
          go_simp
          with_reducible rfl
        rotate_left
        · simp only [Act.put, List.setIfInBounds_toArray, List.set_cons_zero, List.set_cons_succ, iJ, iK]
          rfl
        refine iM (i := 9) (N := some 44) (v := ?_) (a' := ?_) #[true, true, true, true, true, true, true, true, true, true, true, false, false, false] rfl rfl (iI HT_.out (by kernel_rfl)) (fun _ _ _ h => h) (Or.inl ⟨by rfl, ?_⟩) ?_ ?_
        rotate_left
        · intro w'
          go_simp
          with_reducible rfl
        rotate_left
        · simp only [Act.put, List.setIfInBounds_toArray, List.set_cons_zero, List.set_cons_succ, iJ, iK]
          rfl
        refine iM (i := 11) (N := some 46) (v := ?_) (a' := ?_) #[true, true, true, true, true, true, true, true, true, true, true, true, false, false] rfl rfl (iI HT_.out (by kernel_rfl)) (fun _ _ _ h => h) (Or.inl ⟨by rfl, ?_⟩) ?_ ?_
        rotate_left
        · intro w'
          go_simp
          with_reducible rfl
        rotate_left
        · simp only [Act.put, List.setIfInBounds_toArray, List.set_cons_zero, List.set_cons_succ, iJ, iK]
          rfl
        refine one_ (i := 12) (N := some 6) #[true, true, true, true, true, true, true, true, true, true, true, true, true, false] rfl rfl (jK HT_.out (by kernel_rfl)) (by decide) (fun K hK => ?_)
        refine mV (w1 := ?_) (v := ?_) (by rfl) rfl ?_ ?_
        rotate_left 2
        · go_simp
          constructor
          · rfl
          · rfl
        refine hK.out _ _ ⟨(jI (iF (Below.refl _ _) _) (show W5.drew.drew.cell? _ = _ from t2)), (jI (iF (Below.refl _ _) _) (show W5.drew.drew.cell? _ = _ from t3))⟩ (fun hHeld => ?_)
        clear hK K
        refine kC (a' := ?_) ?_ ?_
        rotate_left
        · show Act.put _ (some 6) _ = _
          simp only [Act.put, List.setIfInBounds_toArray, List.set_cons_zero, List.set_cons_succ, iJ, iK]
          rfl
        refine mQ (i := 13) (N := none) #[true, true, true, true, true, true, true, true, true, true, true, true, true, true] rfl rfl (jK HT_.out (by kernel_rfl)) (by decide) (fun K hK => ?_)
        refine mX (w1 := ?_) (by rfl) rfl ?_ ?_
        rotate_left
        · go_simp
          rfl
        refine hK.out _ _ ?_
        clear hK K
        refine kP (jM HT_.out (by kernel_rfl)) ?_
        rw [E2.out]
        obtain ⟨W6, hW6⟩ : ∃ W6, W6 = (W5.alloc (.cells #[.int .u32 id, .int .u8 1, .int .u32 0, .slice none 0 0, .slice none 0 0, .bool false] 130)).drew.drew := ⟨_, rfl⟩
        have hb6 : Below W5.heap.size W5 W6 := by rw [hW6]; exact iP (iP (iF (Below.refl _ _) _))
        have hX6 : W6.heap[W5.heap.size]? = some (.cells #[.int .u32 id, .int .u8 1, .int .u32 0, .slice none 0 0, .slice none 0 0, .bool false] 130 (0, 0)) := by rw [hW6]; exact qK (qK (jD rfl))
        have F6 := F5.out.trans (RoFr.of_below hb6 H5.out.Ble)
        have hcs := HC.out _ F6
        have hsz6 := hb6.size
        have hnl6 : N ≤ 6 := by have := (l9 HRT.out).len; rw [HN.out] at this; exact this
        have hlen6 : W5.heap.size < W6.heap.size := jJ hX6
        have HX6 := iC.mk hX6
        have e3 := (iD hX6 3).trans (show _ = some (Value.slice none 0 0) from rfl)
        obtain ⟨A5, q5, A5', k5', g5, hR5, hS5⟩ := H5.out.blk
        obtain ⟨M5, hM5⟩ : ∃ M5, s.up.L.length = M5 := ⟨_, rfl⟩
        have HM5 := iC.mk hM5
        have HR5 := iC.mk hR5
        have HG5 := iC.mk g5
        have HS5 := iC.mk hS5
        rw [← hW6]
        clear hW6 hX6 F6 hM5 hR5 hS5 g5 HT_ HW_ hHeld t2 t3
        go_wp2_with (at_builtin; (refine Kd.R_append_rows (Kd.int .i64) (w0 := W6) W6.heap.size rfl (.tmp 48) (.tmp 49) 25 3 (.int .i64 0) 8 rfl Try.underlying25 oO rfl (by decide) (by omega) (.slice none 0 0) [] l _ _ _ (fun _ => True) (fun _ => False) rfl rfl (Kd.R_nil _ _ _ _ _) hcs (fun _ _ h => h) (fun _ h => h.elim) (fun _ _ => trivial) (Below.refl _ _) (Nat.le_refl _) (by simp only [List.length_nil]; omega) ?_; intro v7 w7 ho7 hb7 hg7 _; rw [List.nil_append] at ho7; obtain ⟨A7, c7, rfl⟩ := Kd.R_slice ho7; rw [HN.out] at ho7 ⊢; have hX7 := iV hb7 HX6.out; have e37 := (iD hX7 3).trans (show _ = some (Value.slice none 0 0) from rfl); have f37 := iE hX7 3; have HX7 := iC.mk hX7; have HO7 := iC.mk ho7; have HB7 := iC.mk hb7; clear ho7 hb7 hg7 hX7 hcs e3))
        obtain ⟨gb, hgb⟩ : ∃ gb, gb = W5.heap.size := ⟨_, rfl⟩
        obtain ⟨W8, hW8⟩ : ∃ W8, W8 = w7.setCell ⟨W5.heap.size, 3, none⟩ (.slice A7 N c7) := ⟨_, rfl⟩
        have hg8 := kM w7 W5.heap.size 3 (.slice A7 N c7)
        have hX8 : W8.heap[gb]? = some (.cells #[.int .u32 id, .int .u8 1, .int .u32 0, .slice A7 N c7, .slice none 0 0, .bool false] 130 (0, 0)) := by rw [hW8, hgb]; exact iZ HX7.out 3 _ rfl
        have hb8 : Below W5.heap.size W5 W8 := by
          rw [hW8]
          exact (hb6.trans (HB7.out.mono hsz6)).grown hg8 (Nat.le_trans hsz6 HB7.out.size) (fun j hj => by cases hj; exact Nat.le_refl _)
        have hR8 : (Kd.int .i64).R 3 W8 W6.heap.size (fun _ => True) (.slice A7 N c7) l := by rw [hW8]; exact Kd.R_set HO7.out HX7.out (by decide) 3 _
        have h8 := H5.out.below hb8
        rw [← hW8, ← hgb]
        have hM : kB.M W8 B (fun _ => True) (toB (id, ⟨1, 0, l, [], false⟩)) [.int .u32 id, .int .u8 1, .int .u32 0, .slice A7 N c7, .slice none 0 0, .bool false] := J.k130_mkM W8 B _ (toB (id, ⟨1, 0, l, [], false⟩)) (Kd.R_lower hR8 (Nat.le_trans H5.out.Ble hsz6)) (Kd.R_nil _ _ _ _ _)
        have hRr := Kd.R_below HR5.out hb8
        have hMo := zL hM hRr
        rw [HM5.out] at hRr hMo
        have HM8 := iC.mk hMo
        have HR8 := iC.mk hRr
        have HB8 := iC.mk hb8
        have HX8 := iC.mk hX8
        have HRC := iC.mk (iV hb8 HG5.out)
        skip
        have HS8 := iC.mk h8
        have t0 := (iD HRC.out 0).trans (show _ = some (Value.slice A5 (s.up).L.length q5) from rfl)
        rw [HM5.out] at t0
        have p0 := (iD hX8 0).trans (show _ = some (Value.int .u32 id) from rfl)
        have p1 := (iD hX8 1).trans (show _ = some (Value.int .u8 1) from rfl)
        have p2 := (iD hX8 2).trans (show _ = some (Value.int .u32 0) from rfl)
        have p3 := (iD hX8 3).trans (show _ = some (Value.slice A7 N c7) from rfl)
        have p4 := (iD hX8 4).trans (show _ = some (Value.slice none 0 0) from rfl)
        have p5 := (iD hX8 5).trans (show _ = some (Value.bool false) from rfl)
        have HGB := iC.mk hgb
        clear hgb hW8 hg8 hX8 hb8 hR8 h8 hM hRr hMo hb6 hsz6 hlen6 e37 f37 HX7 HO7 HB7 HX6
        refine jQ (n := 11) (S := fun w' => w'.cell? ⟨rc, 0, none⟩ = some (.slice A5 M5 q5) ∧ w'.cell? ⟨gb, 0, none⟩ = some (.int .u32 id) ∧ w'.cell? ⟨gb, 1, none⟩ = some (.int .u8 1) ∧ w'.cell? ⟨gb, 2, none⟩ = some (.int .u32 0) ∧ w'.cell? ⟨gb, 3, none⟩ = some (.slice A7 N c7) ∧ w'.cell? ⟨gb, 4, none⟩ = some (.slice none 0 0) ∧ w'.cell? ⟨gb, 5, none⟩ = some (.bool false)) (ds := [7, 8, 9, 10]) #[false, false, false, false, false, false, false, false, false, false, false] (by kernel_rfl) rfl rfl ⟨t0, p0, p1, p2, p3, p4, p5⟩ (fun hHeld => ?_)
        refine jE (T := (true, [([], []), ([], []), ([1], [1]), ([2], [2]), ([3], [3]), ([], []), ([5], [5]), ([4, 6], [4, 6]), ([0, 0, 1, 2, 3, 4, 5, 6, 7], [0]), ([8, 0, 1, 2, 3, 4, 5, 6, 7], [8]), ([9, 7, 7, 0, 1, 2, 3, 4, 5, 6, 7], [7, 9])])) (B := [0, 0, 2, 6, 14, 0, 32, 126, 255, 511, 1023]) (by kernel_rfl) (by kernel_rfl) (fun HT_ HW_ => ?_)
        refine iM (i := 0) (N := some 52) (v := ?_) (a' := ?_) #[true, false, false, false, false, false, false, false, false, false, false] rfl rfl (iI HT_.out (by kernel_rfl)) (fun _ _ _ h => h) (Or.inl ⟨by rfl, ?_⟩) ?_ ?_
        rotate_left
        · intro w'
          go_simp
          with_reducible rfl
        rotate_left
        · simp only [Act.put, List.setIfInBounds_toArray, List.set_cons_zero, List.set_cons_succ, iJ, iK]
          rfl
        refine iM (i := 1) (N := some 53) (v := ?_) (a' := ?_) #[true, true, false, false, false, false, false, false, false, false, false] rfl rfl (iI HT_.out (by kernel_rfl)) (fun _ _ _ h => h) (Or.inl ⟨by rfl, ?_⟩) ?_ ?_
        rotate_left
        · intro w'
          go_simp
          with_reducible rfl
        rotate_left
        · simp only [Act.put, List.setIfInBounds_toArray, List.set_cons_zero, List.set_cons_succ, iJ, iK]
          rfl
        refine iM (i := 2) (N := some 54) (v := ?_) (a' := ?_) #[true, true, true, false, false, false, false, false, false, false, false] rfl rfl (iI HT_.out (by kernel_rfl)) (fun _ _ _ h => h) (Or.inl ⟨by rfl, ?_⟩) ?_ ?_
        rotate_left
        · intro w'
          go_simp
          with_reducible rfl
        rotate_left
        · simp only [Act.put, List.setIfInBounds_toArray, List.set_cons_zero, List.set_cons_succ, iJ, iK]
          rfl
        refine iM (i := 3) (N := some 55) (v := ?_) (a' := ?_) #[true, true, true, true, false, false, false, false, false, false, false] rfl rfl (iI HT_.out (by kernel_rfl)) (fun _ _ _ h => h) (Or.inl ⟨by rfl, ?_⟩) ?_ ?_
        rotate_left
        · intro w'
          go_simp
          with_reducible rfl
        rotate_left
        · simp only [Act.put, List.setIfInBounds_toArray, List.set_cons_zero, List.set_cons_succ, iJ, iK]
          rfl
        refine jH (i := 4) (N := some 56) (v := ?_) (a' := ?_) #[true, true, true, true, true, false, false, false, false, false, false] rfl rfl (iT HT_.out HW_.out (by kernel_rfl)) (fun _ _ _ h => h) (Or.inl ⟨by rfl, ?_⟩) hHeld ?_ ?_
        rotate_left
        · rintro w' ⟨s0, s1, s2, s3, s4, s5, s6⟩
          go_simp
          with_reducible rfl
        rotate_left
        · simp only [Act.put, List.setIfInBounds_toArray, List.set_cons_zero, List.set_cons_succ, iJ, iK]
          rfl
        refine jH (i := 5) (N := some 57) (v := ?_) (a' := ?_) #[true, true, true, true, true, true, false, false, false, false, false] rfl rfl (iT HT_.out HW_.out (by kernel_rfl)) (fun _ _ _ h => h) (Or.inl ⟨by rfl, ?_⟩) hHeld ?_ ?_
        rotate_left
        · rintro w' ⟨s0, s1, s2, s3, s4, s5, s6⟩
          go_simp
          with_reducible rfl
        rotate_left
        · simp only [Act.put, List.setIfInBounds_toArray, List.set_cons_zero, List.set_cons_succ, iJ, iK]
          rfl
        refine one_ (i := 6) (N := some 58) #[true, true, true, true, true, true, true, false, false, false, false] rfl rfl (jK HT_.out (by kernel_rfl)) (by decide) (fun K hK => ?_)
        refine mV (w1 := ?_) (v := ?_) (by rfl) rfl ?_ ?_
        rotate_left 2
        · go_simp
          constructor
          · rfl
          · rfl
        refine hK.out _ _ ⟨(iD (iO (w := W8.drew) HRC.out _) 0).trans (by rw [← HM5.out]; rfl), (iD (iO (w := W8.drew) HX8.out _) 0).trans rfl, (iD (iO (w := W8.drew) HX8.out _) 1).trans rfl, (iD (iO (w := W8.drew) HX8.out _) 2).trans rfl, (iD (iO (w := W8.drew) HX8.out _) 3).trans rfl, (iD (iO (w := W8.drew) HX8.out _) 4).trans rfl, (iD (iO (w := W8.drew) HX8.out _) 5).trans rfl⟩ (fun hHeld => ?_)
        clear hK K
        refine kC (a' := ?_) ?_ ?_
        rotate_left
        · show Act.put _ (some 58) _ = _
          simp only [Act.put, List.setIfInBounds_toArray, List.set_cons_zero, List.set_cons_succ, iJ, iK]
          rfl
        refine mQ (i := 7) (N := some 59) #[true, true, true, true, true, true, true, true, false, false, false] rfl rfl (jK HT_.out (by kernel_rfl)) (by decide) (fun K hK => ?_)
        refine Kd.R_append_step kB (w0 := W8.drew) B (by rfl) (.tmp 56) (.tmp 58) 107 130 (.agg #[.int .u32 0, .int .u8 0, .int .u32 0, .slice none 0 0, .slice none 0 0, .bool false]) 72 rfl Try.underlying107 uH rfl (by decide) (by decide) (.slice A5 M5 q5) (s.up.L.map toB) (toB (id, ⟨1, 0, l, [], false⟩)) [.int .u32 id, .int .u8 1, .int .u32 0, .slice A7 N c7, .slice none 0 0, .bool false] (fun _ => True) (fun j => some j ≠ (Value.slice A5 M5 q5).ownBlock) rfl rfl (Kd.M_below HM8.out (iP (Below.refl _ _))) (fun j hj => ⟨trivial, hj⟩) (fun _ _ => trivial) (Kd.R_drew HR8.out) (Below.refl _ _) (HS8.out.below (iP (Below.refl _ _))).Ble (by rw [List.length_map]; have := HNL.out; show (s.L.length + 1) * 72 ≤ _; omega) ?_
        intro v9 w9 ho hb9 hg9 hat
        obtain ⟨A9, c9, rfl⟩ := Kd.R_slice ho
        have HO9 := iC.mk ho
        have hf9 := RoFr.of_row (Kd.R_drew HR8.out) (HS8.out.below (iP (Below.refl _ _))).Ble hg9
        have HF9 := iC.mk hf9
        have hrc9 := jR (w := W8.drew) (g := rc) HRC.out hg9 (Kd.R_ne HR8.out HRC.out (by decide))
        have HRC9 := iC.mk hrc9
        have HGB9 := iC.mk (jR (w := W8.drew) (g := gb) HX8.out hg9 (fun e => by obtain ⟨inn, ho'⟩ := Kd.R_own HR5.out; have e' : (Value.slice A5 s.up.L.length q5).ownBlock = some gb := (by rw [HM5.out]; exact e.symm); obtain ⟨cz, hz⟩ := jZ ho' gb e'; have := jJ hz; have := HGB.out; omega))
        have hs9 := (iD hrc9 0).trans (show _ = some (Value.slice A5 (s.up).L.length q5) from rfl)
        have hz9 := iE hrc9 0
        clear ho hb9 hg9 hat hf9 hrc9
        refine hK.out _ _ ?_
        clear hK K
        refine kC (a' := ?_) ?_ ?_
        rotate_left
        · show Act.put _ (some 59) _ = _
          simp only [Act.put, List.setIfInBounds_toArray, List.set_cons_zero, List.set_cons_succ, iJ, iK]
          rfl
        refine iM (i := 8) (N := some 60) (v := ?_) (a' := ?_) #[true, true, true, true, true, true, true, true, true, false, false] rfl rfl (iI HT_.out (by kernel_rfl)) (fun _ _ _ h => h) (Or.inl ⟨by rfl, ?_⟩) ?_ ?_
        rotate_left
        · intro w'
          go_simp
          with_reducible rfl
        rotate_left
        · simp only [Act.put, List.setIfInBounds_toArray, List.set_cons_zero, List.set_cons_succ, iJ, iK]
          rfl
        refine iM (i := 9) (N := some 61) (v := ?_) (a' := ?_) #[true, true, true, true, true, true, true, true, true, true, false] rfl rfl (iI HT_.out (by kernel_rfl)) (fun _ _ _ h => h) (Or.inl ⟨by rfl, ?_⟩) ?_ ?_
        rotate_left
        · intro w'
          go_simp
          with_reducible rfl
        rotate_left
        · simp only [Act.put, List.setIfInBounds_toArray, List.set_cons_zero, List.set_cons_succ, iJ, iK]
          rfl
        refine mQ (i := 10) (N := none) #[true, true, true, true, true, true, true, true, true, true, true] rfl rfl (jK HT_.out (by kernel_rfl)) (by decide) (fun K hK => ?_)
        refine mX (w1 := ?_) (by rfl) rfl ?_ ?_
        rotate_left
        · go_simp
          rfl
        refine hK.out _ _ ?_
        clear hK K
        refine kP (jM HT_.out (by kernel_rfl)) ?_
        obtain ⟨W10, hW10⟩ : ∃ W10, W10 = w9.setCell ⟨rc, 0, none⟩ (.slice A9 (s.up.L.length + 1) c9) := ⟨_, rfl⟩
        have ho9 := HO9.out
        rw [show (s.up.L.map toB ++ [toB (id, ⟨1, 0, l, [], false⟩)]).length = s.up.L.length + 1 from by rw [List.length_append, List.length_map]; rfl] at ho9
        have hS9 := HF9.out.rows (Kd.R_drew (Kd.R_below HS5.out HB8.out)) (fun z hz => by (obtain rfl : z = 96 := (by simpa [show kS.E = [] from rfl] using hz)); exact (by decide))
        have hrow := Ro.row0 (s := s.up) H5.out.cB (Nat.le_trans (HS8.out.below (iP (Below.refl _ _))).Ble HF9.out.size) HRC9.out hS9 (s.up.L ++ [(id, ⟨1, 0, l, [], false⟩)]) (by rw [List.map_append]; exact ho9) (H5.out.sd.push id 1 0 (l9 HRT.out))
        rw [← hW10] at hrow
        rw [← hW10]
        have hz0 := HGB9.out
        have HROW := iC.mk hrow
        have hgr := kM w9 rc 0 (.slice A9 (s.up.L.length + 1) c9)
        rw [← hW10] at hgr
        have y0 := (iD ((hgr.block gb (jJ hz0) (fun e => by injection e with e; have h1 := HRC9.out; rw [← e, hz0] at h1; injection h1 with h1; injection h1 with _ e2 _; exact absurd e2 (by decide))).trans hz0) 0).trans (show _ = some (Value.int .u32 id) from rfl)
        have HFF := iC.mk (F5.out.trans ((RoFr.of_below HB8.out H5.out.Ble).trans ((RoFr.of_below (iP (Below.refl _ _)) HS8.out.Ble).trans (HF9.out.trans hrow.2))))
        have hnone : ¬ (getB s.L (s.starts * 1000 + (s.begun + 1))).isSome = true := by rw [HID2.out, show getB s.L id = none from HG.out]; decide
        have HE := iC.mk (And.intro (show s.beginId l = (id, 0) from by unfold CS.beginId; rw [if_neg (by simp [HRT.out]), if_neg (by have := H9.out; omega), if_neg hnone]; rw [HID2.out]) (show s.begin_ l = s.up.withL (s.up.L ++ [(id, ⟨1, 0, l, [], false⟩)]) from by unfold CS.begin_; rw [if_neg (by simp [HRT.out]), if_neg (by have := H9.out; omega), if_neg hnone]; rw [HID2.out]; rfl))
        clear hnone hW10 ho9 hS9 hrow hz0 hgr HT_ HW_ hHeld t0 p0 p1 p2 p3 p4 p5 hs9 hz9
        go_wp2
        go_ret2
        rw [HE.out.1, HE.out.2]
        exact ⟨rfl, HROW.out.1, HFF.out⟩
      · have HE := iC.mk (And.intro (show s.beginId l = (0, 140) from by unfold CS.beginId; rw [if_neg (by simp [HRT.out]), if_neg (by have := H9.out; omega), if_pos (by rw [HID2.out]; show (getB s.up.L id).isSome = true; rw [hg]; rfl)]) (show s.begin_ l = s.up from by unfold CS.begin_; rw [if_neg (by simp [HRT.out]), if_neg (by have := H9.out; omega), if_pos (by rw [HID2.out]; show (getB s.up.L id).isSome = true; rw [hg]; rfl)]; rfl))
        have hk0 : decide ((0 : Int) ≤ (kk : Int)) = true := decide_eq_true (by omega)
        clear hk hg HT_ HW_ hHeld
        go_wp2
        go_ret2
        rw [HE.out.1, HE.out.2]
        exact ⟨rfl, H5.out.below (iP (Below.refl _ _)), F5.out.trans (RoFr.of_below (iP (Below.refl _ _)) H5.out.Ble)⟩
  · have hrf : kW l = false := by simpa using hrt
    have HRT := iC.mk hrf
    rw [hrf]
    clear hrt hrf
    go_wp2
    go_ret2
    unfold CS.beginId CS.begin_
    rw [if_pos HRT.out, if_pos HRT.out]
    exact ⟨rfl, H1.out, HF1.out⟩
end Go.Proofs.Ytjppookmjdaplaa.K
end
