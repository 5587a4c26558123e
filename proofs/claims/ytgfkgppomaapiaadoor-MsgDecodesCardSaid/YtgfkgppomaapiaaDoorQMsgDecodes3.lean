/- Parts of the proof, one behind the other: CodeB, K4, K9, K10, CodeR, CodeS. -/
import Derived.Test.YtgfkgppomaapiaaDoorQMsgDecodes2
import Derived.Shelf.Abstract
set_option linter.unusedVariables false
set_option linter.unusedSimpArgs false
section
namespace Go.Proofs.YtgfkgppomaapiaaDoor.K
open RowKit YtgfkgppomaapiaaDoorW.PrintWords YtgfkgppomaapiaaDoorW.PrintLast YtgfkgppomaapiaaDoorW.PrintMore My
def MM (b : Bool) (w : World) (e : Ending) (w' : World) : Prop := ∃ r : Int, e = .returned (.int .i64 r) ∧ decide (0 ≤ r) = b ∧ Below w.heap.size w w'
theorem any_take_succ {α : Type} (p : α → Bool) (z : α) (l : List α) (k : Nat) (h : k < l.length) : (l.take (k + 1)).any p = ((l.take k).any p || p (l.getD k z)) := by
  rw [mD z l k h, List.any_append]
  simp
theorem MX {α : Type} (p : α → Bool) (z : α) (l : List α) (k : Nat) (h : k < l.length) (hp : p (l.getD k z) = true) : l.any p = true := by
  rw [List.any_eq_true]
  refine ⟨l.getD k z, ?_, hp⟩
  rw [List.getD_eq_getElem?_getD, List.getElem?_eq_getElem h]
  exact List.getElem_mem h
theorem IG {α : Type} (p : α → Bool) (l : List α) (h : (l.take l.length).any p = false) : l.any p = false := by rwa [List.take_length] at h
def badV (v : Int) : Bool := decide (v < 0) || decide (9999 < v)
set_option maxHeartbeats 400000 in
theorem NE (v : Int) (w : World) : Calls Tryd.prog 118 #[.int .i64 v] w fun e w' => e = .returned (.bool (badV v)) ∧ w = w' := by
  by_cases h0 : v < 0
  · have e : badV v = true := by unfold badV; rw [decide_eq_true h0]; rfl
    rw [e]
    clear e
    go_enter Tryd.func118, Tryd.ntmps118
    go_wp2
    go_ret
    exact ⟨rfl, rfl⟩
  · by_cases h1 : 9999 < v
    · have e : badV v = true := by unfold badV; rw [decide_eq_true h1]; simp
      rw [e]
      clear e
      go_enter Tryd.func118, Tryd.ntmps118
      go_wp2
      go_ret
      exact ⟨rfl, rfl⟩
    · have e : badV v = false := by unfold badV; rw [decide_eq_false h0, decide_eq_false h1]; rfl
      rw [e]
      clear e
      go_enter Tryd.func118, Tryd.ntmps118
      go_wp2
      go_ret
      exact ⟨rfl, rfl⟩
set_option maxHeartbeats 1000000 in
theorem O6 (A : Option Addr) (c : Nat) (l : List Int) (w : World) (hr : Kd.C (Kd.int .i64) w A l.length l) :
    Calls Tryd.prog 129 #[.slice A l.length c, .func (.func 118) #[] #[]] w (MM (l.any badV) w) := by
  have hm := kQ hr
  have HR := iC.mk hr
  clear hr
  go_enter Tryd.func129, Tryd.ntmps129
  go_wp2
  go_loopg [5, 8] l.length (fun gg _ s8 wr => ∃ k : Nat, k ≤ l.length ∧ l.length - k ≤ gg ∧ s8 = .int .i64 k ∧ iC (w = wr) ∧ iC ((l.take k).any badV = false))
  case atStart => exact ⟨0, Nat.zero_le _, by omega, rfl, ⟨rfl⟩, ⟨rfl⟩⟩
  case round =>
    obtain ⟨k, hk, hg, rfl, HW, HA⟩ := hrel
    obtain rfl := HW.out
    by_cases hlt : k < l.length
    · obtain ⟨ad, rfl, hx⟩ := Kd.at_int HR.out (k : Int) (by omega) (by omega)
      have hsn := any_take_succ badV 0 l k hlt
      have hgd : rd l (k : Int) = l.getD k 0 := by unfold rd; rw [Int.toNat_natCast]
      rw [hgd, Int.toNat_natCast] at hx
      clear hgd
      obtain ⟨v, hv⟩ : ∃ v, v = l.getD k 0 := ⟨_, rfl⟩
      rw [← hv] at hx hsn
      cases hq : badV v with
      | true =>
        have HH := iC.mk (MX badV 0 l k hlt (by rw [← hv]; exact hq))
        have hcall := NE v w
        rw [hq] at hcall
        clear hv hsn hq
        go_wp2_with (go_at_call 118; refine hcall.mono ?_; rintro e w' ⟨rfl, rfl⟩)
        go_ret
        exact ⟨k, rfl, by rw [HH.out]; simp, Below.refl _ _⟩
      | false =>
        have HN := iC.mk (show (l.take (k + 1)).any badV = false by rw [hsn, HA.out, hq]; rfl)
        have hcall := NE v w
        rw [hq] at hcall
        clear hv hsn hq
        go_wp2_with (go_at_call 118; refine hcall.mono ?_; rintro e w' ⟨rfl, rfl⟩)
        go_roundg (l.length - (k + 1))
        case measure => omega
        case rel => exact ⟨k + 1, by omega, by omega, by go_num, ⟨rfl⟩, HN⟩
    · have : k = l.length := by omega
      subst this
      go_wp2
      go_ret
      exact ⟨-1, rfl, by rw [IG _ _ HA.out]; rfl, Below.refl _ _⟩
set_option maxHeartbeats 400000 in
theorem O5 (A : Option Addr) (c : Nat) (l : List Int) (w : World) (hr : Kd.C (Kd.int .i64) w A l.length l) :
    Calls Tryd.prog 117 #[.slice A l.length c, .func (.func 118) #[] #[]] w fun e w' => e = .returned (.bool (l.any badV)) ∧ Below w.heap.size w w' := by
  have hcall := O6 A c l w hr
  clear hr
  generalize l.any badV = b at hcall
  go_enter Tryd.func117, Tryd.ntmps117
  go_wp2_with (go_at_call 129; refine hcall.mono ?_; rintro e w' ⟨r, rfl, hr, hb⟩; have HR := iC.mk hr; clear hr)
  go_ret
  exact ⟨by rw [← HR.out]; rfl, hb⟩
theorem TE (f : jQ) : oK f = (decide ((f.f0.length : Int) ≤ 4) && !f.f0.any badV) := by
  unfold oK
  congr 1
  · rw [decide_eq_decide]; omega
  · rw [List.any_eq_not_all_not, Bool.not_not]
    congr 1
    funext v
    unfold badV
    rw [Bool.eq_iff_iff]
    simp
set_option maxHeartbeats 1000000 in
theorem UO (A : Option Addr) (c : Nat) (f : jQ) (w : World) (hr : Kd.C (Kd.int .i64) w A f.f0.length f.f0) :
    Calls Tryd.prog 94 #[.agg #[.slice A f.f0.length c, .int .i64 f.f1]] w fun e w' => e = .returned (.bool (oK f)) ∧ Below w.heap.size w w' := by
  have hcall := O5 A c f.f0 (w.alloc (.cells #[.slice A f.f0.length c, .int .i64 f.f1] 139)) (Kd.C_below hr (iF (Below.refl _ _) _))
  clear hr
  rw [TE]
  by_cases h4 : (f.f0.length : Int) ≤ 4
  · rw [decide_eq_true h4, Bool.true_and]
    generalize f.f0.any badV = b at hcall
    go_enter Tryd.func94, Tryd.ntmps94
    go_wp2_with (go_at_call 117; refine hcall.mono ?_; rintro e w' ⟨rfl, hb⟩)
    go_ret
    exact ⟨rfl, iH (iF (Below.refl _ _) _) hb⟩
  · rw [decide_eq_false h4, Bool.false_and]
    clear hcall
    go_enter Tryd.func94, Tryd.ntmps94
    go_wp2
    go_ret
    exact ⟨rfl, iF (Below.refl _ _) _⟩
set_option maxHeartbeats 400000 in
theorem LW (A : Option Addr) (c : Nat) (f : jQ) (w : World) (hr : Kd.C (Kd.int .i64) w A f.f0.length f.f0) :
    Calls Tryd.prog 93 #[.agg #[.slice A f.f0.length c, .int .i64 f.f1]] w fun e w' => e = .returned (.bool (!oK f)) ∧ Below w.heap.size w w' := by
  have hcall := UO A c f (w.alloc (.cells #[.slice A f.f0.length c, .int .i64 f.f1] 139)) (Kd.C_below hr (iF (Below.refl _ _) _))
  clear hr
  generalize oK f = b at hcall
  go_enter Tryd.func93, Tryd.ntmps93
  go_wp2_with (go_at_call 94; refine hcall.mono ?_; rintro e w' ⟨rfl, hb⟩)
  go_ret
  exact ⟨rfl, iH (iF (Below.refl _ _) _) hb⟩
def PZ : jQ := z139
set_option maxHeartbeats 1000000 in
theorem MK (A : Option Addr) (c : Nat) (l : List jQ) (w : World) (hr : Kd.C k139 w A l.length l) :
    Calls Tryd.prog 116 #[.slice A l.length c, .func (.func 93) #[] #[]] w (MM (l.any fun f => !oK f) w) := by
  have hm := kQ hr
  have HR := iC.mk hr
  clear hr
  go_enter Tryd.func116, Tryd.ntmps116
  go_wp2
  go_loopg [5, 8] l.length (fun gg _ s8 wr => ∃ k : Nat, k ≤ l.length ∧ l.length - k ≤ gg ∧ s8 = .int .i64 k ∧ iC (Below w.heap.size w wr) ∧ iC ((l.take k).any (fun f => !oK f) = false))
  case atStart => exact ⟨0, Nat.zero_le _, by omega, rfl, ⟨Below.refl _ _⟩, ⟨rfl⟩⟩
  case round =>
    obtain ⟨k, hk, hg, rfl, HW, HA⟩ := hrel
    by_cases hlt : k < l.length
    · obtain ⟨ad, A1, c1, rfl, hx0, hx1, hl1, hC1⟩ := kU (Kd.C_below HR.out HW.out) (k : Int) (by omega) (by omega)
      have hsn := any_take_succ (fun f => !oK f) PZ l k hlt
      have hgd : iW l (k : Int) = l.getD k PZ := by unfold iW PZ; rw [Int.toNat_natCast]
      rw [hgd] at hx0 hx1 hl1 hC1
      rw [Int.toNat_natCast] at hx0 hx1
      clear hgd
      obtain ⟨f, hf⟩ : ∃ v, v = l.getD k PZ := ⟨_, rfl⟩
      rw [← hf] at hx0 hx1 hsn hl1 hC1
      have hcall := LW A1 c1 f wr hC1
      cases hq : (!oK f) with
      | true =>
        have HH := iC.mk (MX (fun f => !oK f) PZ l k hlt (by rw [← hf]; exact hq))
        rw [hq] at hcall
        clear hf hsn hq hC1 hl1
        go_wp2_with (go_at_call 93; refine hcall.mono ?_; rintro e w' ⟨rfl, hb⟩)
        go_ret
        exact ⟨k, rfl, by rw [HH.out]; simp, iH HW.out hb⟩
      | false =>
        have HN := iC.mk (show (l.take (k + 1)).any (fun f => !oK f) = false by rw [hsn, HA.out, hq]; rfl)
        rw [hq] at hcall
        clear hf hsn hq hC1 hl1
        go_wp2_with (go_at_call 93; refine hcall.mono ?_; rintro e w' ⟨rfl, hb⟩)
        go_roundg (l.length - (k + 1))
        case measure => omega
        case rel => exact ⟨k + 1, by omega, by omega, by go_num, ⟨iH HW.out hb⟩, HN⟩
    · have : k = l.length := by omega
      subst this
      go_wp2
      go_ret
      exact ⟨-1, rfl, by rw [IG _ _ HA.out]; rfl, HW.out⟩
set_option maxHeartbeats 400000 in
theorem MO (A : Option Addr) (c : Nat) (l : List jQ) (w : World) (hr : Kd.C k139 w A l.length l) :
    Calls Tryd.prog 92 #[.slice A l.length c, .func (.func 93) #[] #[]] w fun e w' => e = .returned (.bool (l.any fun f => !oK f)) ∧ Below w.heap.size w w' := by
  have hcall := MK A c l w hr
  clear hr
  generalize (l.any fun f => !oK f) = b at hcall
  go_enter Tryd.func92, Tryd.ntmps92
  go_wp2_with (go_at_call 116; refine hcall.mono ?_; rintro e w' ⟨r, rfl, hr, hb⟩; have HR := iC.mk hr; clear hr)
  go_ret
  exact ⟨by rw [← HR.out]; rfl, hb⟩
theorem QH (l : List jQ) : mV l = (decide ((l.length : Int) ≤ 200) && !l.any fun f => !oK f) := by
  unfold mV
  congr 1
  · rw [decide_eq_decide]; omega
  · rw [List.any_eq_not_all_not, Bool.not_not]
    congr 1
    funext v
    simp
def code_batch.f (l0 : List jQ) : Option Bool := some (mV l0)
set_option maxHeartbeats 1000000 in
theorem code_batch.calls (A0 : Option Addr) (c0 : Nat) (l0 : List jQ) (r : Bool) (w : World) (hr0 : Kd.C k139 w A0 l0.length l0) (hc0 : l0.length ≤ c0) (h : code_batch.f l0 = some r) :
    Calls Tryd.prog 62 #[.slice A0 l0.length c0] w fun e w' => e = .returned (.bool r) ∧ Below w.heap.size w w' := by
  obtain rfl := Option.some.inj h
  have hm := kQ hr0
  have hcall := MO A0 c0 l0 w hr0
  clear hr0 h
  rw [QH]
  by_cases h4 : (l0.length : Int) ≤ 200
  · rw [decide_eq_true h4, Bool.true_and]
    generalize (l0.any fun f => !oK f) = b at hcall
    go_enter Tryd.func62, Tryd.ntmps62
    go_wp2_with (go_at_call 92; refine hcall.mono ?_; rintro e w' ⟨rfl, hb⟩)
    go_ret
    exact ⟨rfl, hb⟩
  · rw [decide_eq_false h4, Bool.false_and]
    clear hcall
    go_enter Tryd.func62, Tryd.ntmps62
    go_wp2
    go_ret
    exact ⟨rfl, Below.refl _ _⟩
end Go.Proofs.YtgfkgppomaapiaaDoor.K
end

section
namespace Go.Proofs.YtgfkgppomaapiaaDoor.K
open Go.RowKit Go.Proofs.YtgfkgppomaapiaaDoorW.PrintWords Go.Proofs.YtgfkgppomaapiaaDoorW.PrintLast Go.Proofs.YtgfkgppomaapiaaDoorW.PrintMore
def code_rises.l0 : Nat → Int → List Int → Int → Int → Option (Bool)
  | 0, _, _, _, _ => none
  | k + 1, x3, x6, x7, x8 => if x8 < x7 then (if 0 ≤ x8 then (if x8 < (x6.length : Int) then (if (rd x6 x8) ≤ x3 then (some false) else (if (rd x6 x8) ≥ 6 then (some false) else (code_rises.l0 k (rd x6 x8) x6 x7 (wrap64 (x8 + 1))))) else (none)) else (none)) else (some true)
def code_rises.f (k : Nat) (l0 : List Int) : Option (Bool) := code_rises.l0 k (-1) l0 (l0.length : Int) 0
set_option maxHeartbeats 8000000 in
set_option maxRecDepth 100000 in
theorem code_rises.calls (k : Nat) (A0 : Option Addr) (c0 : Nat) (l0 : List Int) (r : Bool) (w : World) (hr0 : Kd.C (Kd.int .i64) w A0 l0.length l0) (hc0 : l0.length ≤ c0) (h : code_rises.f k l0 = some r) :
    Calls Tryd.prog 61 #[.slice A0 l0.length c0] w fun e w' => e = .returned (.bool r) ∧ jB w w' := by
  have HR0 := iC.mk hr0
  have HC0 := iC.mk hc0
  clear hr0 hc0
  have H : (code_rises.l0 k (-1) l0 (l0.length : Int) 0) = some r := h
  clear h
  have H' := iC.mk H
  clear H
  go_enter Tryd.func61, Tryd.ntmps61
  go_wp2
  go_loopg [3, 8] k (fun kq v3 v8 w' => ∃ (x3_1 : Int) (x8_1 : Int), v3 = .int .i64 x3_1 ∧ v8 = .int .i64 x8_1 ∧ iC (code_rises.l0 kq x3_1 l0 (l0.length : Int) x8_1 = some r) ∧ iC (kq ≤ k) ∧ jB w w')
  case atStart => exact ⟨((-1)), (0), (by first | rfl | (simp; done) | (simp [*]; done)), (by first | rfl | (simp; done) | (simp [*]; done)), H', ⟨Nat.le_refl _⟩, by repeat (first | exact jB.refl _ | apply jB.step)⟩
  case round =>
    clear H'
    obtain ⟨x3_1, x8_1, rfl, rfl, HA, HK1, ⟨m1, rfl⟩⟩ := hrel
    cases gk with
    | zero => exact absurd HA.out (by simp [code_rises.l0])
    | succ k1 =>
      have H := HA.out
      clear HA
      simp only [code_rises.l0] at H
      by_cases c2 : x8_1 < (l0.length : Int)
      · rw [if_pos c2] at H
        have c2b0 : decide (x8_1 < (l0.length : Int)) = true := decide_eq_true c2
        clear c2
        by_cases c3 : 0 ≤ x8_1
        · rw [if_pos c3] at H
          have c3b0 : decide (0 ≤ x8_1) = true := decide_eq_true c3
          clear c3
          by_cases c4 : x8_1 < (l0.length : Int)
          · rw [if_pos c4] at H
            have c4b0 : decide (x8_1 < (l0.length : Int)) = true := decide_eq_true c4
            clear c4
            by_cases c5 : (rd l0 x8_1) ≤ x3_1
            · rw [if_pos c5] at H
              have c5b0 : decide ((rd l0 x8_1) ≤ x3_1) = true := decide_eq_true c5
              clear c5
              obtain rfl := Option.some.inj H
              have p106 : 0 ≤ (x8_1 : Int) := of_decide_eq_true asm_
              have q106 : x8_1 < (l0.length : Int) := of_decide_eq_true asm_
              obtain ⟨ad106, e106, hx106_0⟩ := Kd.at_int HR0.out x8_1 p106 q106
              cases e106
              replace p106 := eq_true p106
              replace q106 := eq_true q106
              go_wp2
              go_ret
              exact ⟨by first | rfl | (simp; done) | (simp [*]; done), by repeat (first | exact jB.refl _ | apply jB.step)⟩
            · rw [if_neg c5] at H
              have c5b0 : decide ((rd l0 x8_1) ≤ x3_1) = false := decide_eq_false c5
              clear c5
              by_cases c6 : (rd l0 x8_1) ≥ 6
              · rw [if_pos c6] at H
                have c6b0 : decide (6 ≤ (rd l0 x8_1)) = true := decide_eq_true c6
                clear c6
                obtain rfl := Option.some.inj H
                have p106 : 0 ≤ (x8_1 : Int) := of_decide_eq_true asm_
                have q106 : x8_1 < (l0.length : Int) := of_decide_eq_true asm_
                obtain ⟨ad106, e106, hx106_0⟩ := Kd.at_int HR0.out x8_1 p106 q106
                cases e106
                replace p106 := eq_true p106
                replace q106 := eq_true q106
                go_wp2
                go_ret
                exact ⟨by first | rfl | (simp; done) | (simp [*]; done), by repeat (first | exact jB.refl _ | apply jB.step)⟩
              · rw [if_neg c6] at H
                have c6b0 : decide (6 ≤ (rd l0 x8_1)) = false := decide_eq_false c6
                clear c6
                have H' := iC.mk H
                clear H
                have p106 : 0 ≤ (x8_1 : Int) := of_decide_eq_true asm_
                have q106 : x8_1 < (l0.length : Int) := of_decide_eq_true asm_
                obtain ⟨ad106, e106, hx106_0⟩ := Kd.at_int HR0.out x8_1 p106 q106
                cases e106
                replace p106 := eq_true p106
                replace q106 := eq_true q106
                go_wp2
                go_roundg k1
                case measure => have := HK1.out; omega
                case rel => exact ⟨(rd l0 x8_1), (wrap64 (x8_1 + 1)), (by first | rfl | (simp; done) | (simp [*]; done)), (by first | rfl | (simp; done) | (simp [*]; done)), H', ⟨by have := HK1.out; omega⟩, by repeat (first | exact jB.refl _ | apply jB.step)⟩
          · rw [if_neg c4] at H
            exact absurd H (by simp)
        · rw [if_neg c3] at H
          exact absurd H (by simp)
      · rw [if_neg c2] at H
        have c2b0 : decide (x8_1 < (l0.length : Int)) = false := decide_eq_false c2
        clear c2
        obtain rfl := Option.some.inj H
        go_wp2
        go_ret
        exact ⟨by first | rfl | (simp; done) | (simp [*]; done), by repeat (first | exact jB.refl _ | apply jB.step)⟩
end Go.Proofs.YtgfkgppomaapiaaDoor.K
end

section
namespace Go.Proofs.YtgfkgppomaapiaaDoor.K
open Go.RowKit Go.Proofs.YtgfkgppomaapiaaDoorW.PrintWords Go.Proofs.YtgfkgppomaapiaaDoorW.PrintLast Go.Proofs.YtgfkgppomaapiaaDoorW.PrintMore
def code_history.l0 : Nat → List (S86) → List (S86) → Int → Int → Option (Bool)
  | 0, _, _, _, _ => none
  | k + 1, x0, x5, x6, x7 => if x7 < x6 then (if 0 ≤ x7 then (if x7 < (x5.length : Int) then ((code_batch.f ((iQ x5 x7).f1)).bind fun t109 => (if t109 = true then (if x7 > 0 then (if 0 ≤ (wrap64 (x7 - 1)) then (if (wrap64 (x7 - 1)) < (x0.length : Int) then (if ((iQ x5 x7).f0) ≤ ((iQ x0 (wrap64 (x7 - 1))).f0) then (some false) else (code_history.l0 k x0 x5 x6 (wrap64 (x7 + 1)))) else (none)) else (none)) else (code_history.l0 k x0 x5 x6 (wrap64 (x7 + 1)))) else (some false))) else (none)) else (none)) else (some (decide ((x0.length : Int) ≤ 5000)))
def code_history.f (k : Nat) (l0 : List (S86)) : Option (Bool) := code_history.l0 k l0 l0 (l0.length : Int) 0
def code_history.T4 : Bool × List (List Nat × List Nat) := (true, [([], []), ([0], [0]), ([1], [1]), ([2], [2]), ([3, 2], [3]), ([4], [4]), ([5, 4], [4, 5]), ([6, 4, 4], [4, 6]), ([7], [7]), ([8, 7], [7, 8]), ([7], [7]), ([7], [7]), ([11, 7], [7, 11]), ([10, 12, 7], [7, 10, 12]), ([13, 7], [7, 13]), ([14, 7], [7, 14]), ([9, 15, 7], [7, 9, 15]), ([7, 16, 4], [4, 7, 16]), ([4, 17], [4, 17])])
def code_history.B4 : List Nat := [0, 1, 3, 7, 15, 31, 63, 127, 255, 511, 255, 255, 2303, 7423, 15615, 31999, 65535, 131071, 262143]
theorem code_history.tab4 : rtab .any (opsOf Tryd.f66 4) = code_history.T4 := by kernel_rfl
theorem code_history.bits4 : mW code_history.T4.2 code_history.B4 = true := by kernel_rfl
set_option maxHeartbeats 8000000 in
set_option maxRecDepth 100000 in
theorem code_history.calls (k : Nat) (A0 : Option Addr) (c0 : Nat) (l0 : List (S86)) (r : Bool) (w : World) (hr0 : Kd.C k86 w A0 l0.length l0) (hc0 : l0.length ≤ c0) (h : code_history.f k l0 = some r) :
    Calls Tryd.prog 66 #[.slice A0 l0.length c0] w fun e w' => e = .returned (.bool r) ∧ Below w.heap.size w w' := by
  have hu86 := Tryd.underlying86
  have HR0 := iC.mk hr0
  have HC0 := iC.mk hc0
  clear hr0 hc0
  have HB := iC.mk (Below.refl w.heap.size w)
  have H : (code_history.l0 k l0 l0 (l0.length : Int) 0) = some r := h
  clear h
  have H' := iC.mk H
  clear H
  go_enter Tryd.func66, Tryd.ntmps66
  go_wp2
  go_loopg [7] k (fun kq v7 w' => ∃ (x7_1 : Int), v7 = .int .i64 x7_1 ∧ iC (code_history.l0 kq l0 l0 (l0.length : Int) x7_1 = some r) ∧ iC (kq ≤ k) ∧ iC (Below w.heap.size w w'))
  case atStart => exact ⟨(0), (by first | rfl | (simp; done) | (simp [*]; done)), H', ⟨Nat.le_refl _⟩, ⟨hb_⟩⟩
  case round =>
    clear H'
    obtain ⟨x7_1, rfl, HA, HK1, HB⟩ := hrel
    cases gk with
    | zero => exact absurd HA.out (by simp [code_history.l0])
    | succ k1 =>
      have H := HA.out
      clear HA
      simp only [code_history.l0] at H
      by_cases c2 : x7_1 < (l0.length : Int)
      · rw [if_pos c2] at H
        have c2b0 : decide (x7_1 < (l0.length : Int)) = true := decide_eq_true c2
        clear c2
        by_cases c3 : 0 ≤ x7_1
        · rw [if_pos c3] at H
          have c3b0 : decide (0 ≤ x7_1) = true := decide_eq_true c3
          clear c3
          by_cases c4 : x7_1 < (l0.length : Int)
          · rw [if_pos c4] at H
            have c4b0 : decide (x7_1 < (l0.length : Int)) = true := decide_eq_true c4
            clear c4
            replace H := Option.bind_eq_some_iff.mp H
            obtain ⟨t109, A50, H⟩ := H
            replace H : (if t109 = true then (if x7_1 > 0 then (if 0 ≤ (wrap64 (x7_1 - 1)) then (if (wrap64 (x7_1 - 1)) < (l0.length : Int) then (if ((iQ l0 x7_1).f0) ≤ ((iQ l0 (wrap64 (x7_1 - 1))).f0) then (some false) else (code_history.l0 k1 l0 l0 (l0.length : Int) (wrap64 (x7_1 + 1)))) else (none)) else (none)) else (code_history.l0 k1 l0 l0 (l0.length : Int) (wrap64 (x7_1 + 1)))) else (some false)) = some r := H
            have A5 := iC.mk A50
            clear A50
            by_cases c6 : t109 = true
            · subst c6
              have H1 : (if x7_1 > 0 then (if 0 ≤ (wrap64 (x7_1 - 1)) then (if (wrap64 (x7_1 - 1)) < (l0.length : Int) then (if ((iQ l0 x7_1).f0) ≤ ((iQ l0 (wrap64 (x7_1 - 1))).f0) then (some false) else (code_history.l0 k1 l0 l0 (l0.length : Int) (wrap64 (x7_1 + 1)))) else (none)) else (none)) else (code_history.l0 k1 l0 l0 (l0.length : Int) (wrap64 (x7_1 + 1)))) = some r := by rw [if_pos rfl] at H; exact H
              clear H
              have H := H1
              clear H1
              by_cases c7 : x7_1 > 0
              · rw [if_pos c7] at H
                have c7b0 : decide (0 < x7_1) = true := decide_eq_true c7
                clear c7
                obtain ⟨ji8, hji8⟩ : ∃ j_ : Int, (wrap64 (x7_1 - 1)) = j_ := ⟨_, rfl⟩
                replace H : (if 0 ≤ (ji8) then (if (ji8) < (l0.length : Int) then (if ((iQ l0 x7_1).f0) ≤ ((iQ l0 (ji8)).f0) then (some false) else (code_history.l0 k1 l0 l0 (l0.length : Int) (wrap64 (x7_1 + 1)))) else (none)) else (none)) = some r := by first | (rw [hji8] at H; exact H) | (simp only [hji8] at H ⊢; exact H)
                (try rw [hji8] at A5)
                have hji8w : (IntKind.i64.wrap (x7_1 - 1)) = ji8 := (iU _).trans hji8
                by_cases c9 : 0 ≤ (ji8)
                · rw [if_pos c9] at H
                  have c9b0 : decide (0 ≤ (ji8)) = true := decide_eq_true c9
                  clear c9
                  by_cases c10 : (ji8) < (l0.length : Int)
                  · rw [if_pos c10] at H
                    have c10b0 : decide ((ji8) < (l0.length : Int)) = true := decide_eq_true c10
                    clear c10
                    by_cases c11 : ((iQ l0 x7_1).f0) ≤ ((iQ l0 (ji8)).f0)
                    · rw [if_pos c11] at H
                      have c11b0 : decide (((iQ l0 x7_1).f0) ≤ ((iQ l0 (ji8)).f0)) = true := decide_eq_true c11
                      clear c11
                      obtain rfl := Option.some.inj H
                      have p107 : 0 ≤ (x7_1 : Int) := of_decide_eq_true asm_
                      have q107 : x7_1 < (l0.length : Int) := of_decide_eq_true asm_
                      obtain ⟨ad107, A107_1, c107_1, e107, hx107_0, hx107_1, hl107_1, hi107_1⟩ := kZ HR0.out x7_1 p107 q107
                      cases e107
                      replace hx107_0 := (HB.out.cell (World.block_lt_of_cell? w _ hx107_0)).trans hx107_0
                      replace hx107_1 := (HB.out.cell (World.block_lt_of_cell? w _ hx107_1)).trans hx107_1
                      have HR107_1 := iC.mk hi107_1
                      have HC107_1 := iC.mk hl107_1
                      clear hi107_1 hl107_1
                      replace p107 := eq_true p107
                      replace q107 := eq_true q107
                      try go_wp2_with (first | ((with_reducible refine jT (N := 4) rfl ?_); refine jK ?hg (N := 4) ?hd (cs := #[.int .u32 0, .slice none 0 0]) (t := 86) ?hr ?_; (case hd => rfl); (case hg => rfl); (case hr => first | (go_simp; done) | (go_simp; rfl)); intro gb108 hg w12 hbox hb; have n0_ := iC.mk (iH hb_ hb); have n1_ := iC.mk (hbox); have n2_ := iC.mk ((by rw [hg]; exact (iR hb_) : w.heap.size ≤ gb108)); have n3_ := iC.mk ((by rw [hg]; exact (iR hb_) : w.heap.size ≤ gb108)); clear HB; have HB := n0_; have BK108 := n1_; have GW108 := n2_; have GE108 := n3_; clear n0_ n1_ n2_ n3_; clear hb hbox hg; have hcz13_0 : w12.cell? ⟨gb108, 0, none⟩ = some (.int .u32 0) := (iE BK108.out 0).trans rfl; have hcz13_1 : w12.cell? ⟨gb108, 1, none⟩ = some (.slice none 0 0) := (iE BK108.out 1).trans rfl; have hfz13_0 := iD BK108.out 0; have hfz13_1 := iD BK108.out 1))
                      have n0_ : iC (((w12.setCell ⟨gb108, 0, none⟩ (.int .u32 ((iQ l0 x7_1).f0))).setCell ⟨gb108, 1, none⟩ (.slice A107_1 ((iQ l0 x7_1).f1).length c107_1)).heap[gb108]? = some (.cells #[.int .u32 ((iQ l0 x7_1).f0), .slice A107_1 ((iQ l0 x7_1).f1).length c107_1] 86 (0, 0))) := ⟨by (with_reducible repeat (first | refine kX ?_ _ | refine kN ?_ | refine kS ?_ _)); refine mZ (cs := #[.int .u32 ((iQ l0 x7_1).f0), .slice none 0 0]) ?_ 1 _ rfl; (with_reducible repeat (first | refine kX ?_ _ | refine kN ?_ | refine kS ?_ _)); refine mZ (cs := #[.int .u32 0, .slice none 0 0]) ?_ 0 _ rfl; (with_reducible repeat (first | refine kX ?_ _ | refine kN ?_ | refine kS ?_ _)); exact BK108.out⟩
                      have n1_ : iC (Below w.heap.size w ((w12.setCell ⟨gb108, 0, none⟩ (.int .u32 ((iQ l0 x7_1).f0))).setCell ⟨gb108, 1, none⟩ (.slice A107_1 ((iQ l0 x7_1).f1).length c107_1))) := ⟨by repeat (first | (with_reducible first | exact HB.out | apply iF | apply iG | apply iI | refine iK ?_ GE108.out) | exact HB.out)⟩
                      (try clear BK108)
                      (try clear HB)
                      generalize ((w12.setCell ⟨gb108, 0, none⟩ (.int .u32 ((iQ l0 x7_1).f0))).setCell ⟨gb108, 1, none⟩ (.slice A107_1 ((iQ l0 x7_1).f1).length c107_1)) = w14 at n0_ n1_ ⊢
                      have BK108 := n0_
                      have HB := n1_
                      clear n0_ n1_
                      have n0_ := iC.mk (kN BK108.out)
                      have n1_ := iC.mk (iI HB.out)
                      clear BK108
                      clear HB
                      have BK108 := n0_
                      have HB := n1_
                      clear n0_ n1_
                      have p110 : 0 ≤ ((ji8) : Int) := of_decide_eq_true asm_
                      have q110 : (ji8) < (l0.length : Int) := of_decide_eq_true asm_
                      obtain ⟨ad110, A110_1, c110_1, e110, hx110_0, hx110_1, hl110_1, hi110_1⟩ := kZ HR0.out (ji8) p110 q110
                      have hw110_1 := hx110_1
                      have hw110_0 := hx110_0
                      obtain rfl : ad107 = ad110 := (by injection e110)
                      replace hx110_0 := (HB.out.cell (World.block_lt_of_cell? w _ hx110_0)).trans hx110_0
                      replace hx110_1 := (HB.out.cell (World.block_lt_of_cell? w _ hx110_1)).trans hx110_1
                      have HR110_1 := iC.mk hi110_1
                      have HC110_1 := iC.mk hl110_1
                      clear hi110_1 hl110_1
                      replace p110 := eq_true p110
                      replace q110 := eq_true q110
                      refine qH (n := 19) (S := fun w' => w'.cell? ⟨gb108, 0, none⟩ = some (.int .u32 ((iQ l0 x7_1).f0)) ∧ w'.cell? ⟨gb108, 1, none⟩ = some (.slice A107_1 ((iQ l0 x7_1).f1).length c107_1) ∧ w'.cell? (ad107.add (((ji8)).toNat * 2)) = some (.int .u32 ((iQ l0 (ji8)).f0)) ∧ w'.cell? ⟨(ad107.add (((ji8)).toNat * 2)).block, (ad107.add (((ji8)).toNat * 2)).off + 1, none⟩ = some (.slice A110_1 ((iQ l0 (ji8)).f1).length c110_1)) (ds := []) #[false, false, false, false, false, false, false, false, false, false, false, false, false, false, false, false, false, false, false] (by kernel_rfl) rfl rfl ⟨(iE BK108.out 0).trans rfl, (iE BK108.out 1).trans rfl, ((HB.out.cell (World.block_lt_of_cell? w _ hw110_0)).trans hw110_0), ((HB.out.cell (World.block_lt_of_cell? w _ hw110_1)).trans hw110_1)⟩ (fun hHeld => ?_); refine lZ code_history.tab4 code_history.bits4 (fun HT_ HW_ => ?_)
                      generalize w14.drew = w15 at BK108 HB HR110_1 hx110_0 hx110_1 hHeld ⊢
                      refine jH (i := 0) (N := some 12) (v := ?_) (a' := ?_) #[true, false, false, false, false, false, false, false, false, false, false, false, false, false, false, false, false, false, false] rfl rfl (iZ HT_.out (by kernel_rfl)) (fun _ _ _ h => h) (Or.inl ⟨by rfl, ?_⟩) ?_ ?_
                      rotate_left
                      · intro w'
                        go_simp
                        with_reducible rfl
                      rotate_left
                      · simp only [Act.put, List.setIfInBounds_toArray, List.set_cons_zero, List.set_cons_succ, iU, iY]
                        rfl
                      refine lX (i := 1) (N := some 13) (v := ?_) (a' := ?_) #[true, true, false, false, false, false, false, false, false, false, false, false, false, false, false, false, false, false, false] rfl rfl (jL HT_.out HW_.out (by kernel_rfl)) (fun _ _ _ h => h) (Or.inl ⟨by rfl, ?_⟩) hHeld ?_ ?_
                      rotate_left
                      · rintro w' ⟨s0, s1, s2, s3⟩
                        go_simp
                        with_reducible rfl
                      rotate_left
                      · simp only [Act.put, List.setIfInBounds_toArray, List.set_cons_zero, List.set_cons_succ, iU, iY]
                        rfl
                      refine one_ (i := 2) (N := some 14) #[true, true, true, false, false, false, false, false, false, false, false, false, false, false, false, false, false, false, false] rfl rfl (lG HT_.out (by kernel_rfl)) (by decide) (fun K hK => ?_)
                      refine qW Tryd.func62 (by kernel_rfl) rfl #[.slice A107_1 ((iQ l0 x7_1).f1).length c107_1] (by rfl) rfl rfl (by (try simp only [List.map_toArray, List.map_cons, List.map_nil]); first | done | rfl | (simp only [List.length_drop, List.length_take]; rfl)) ?_
                      with_reducible refine (code_batch.calls _ _ ((iQ l0 x7_1).f1) true _ ?side1 ?side2 A5.out).mono ?_
                      (case side1 => repeat (first | exact (Kd.C_below HR107_1.out HB.out) | (with_reducible refine Kd.C_alloc ?_ _) | (with_reducible refine Kd.C_drewN ?_ _) | (with_reducible refine Kd.C_drew ?_)))
                      (case side2 => exact HC107_1.out)
                      rintro e w16 ⟨rfl, hb⟩
                      refine ⟨_, rfl, ?_⟩
                      have n0_ := iC.mk (jI (g := gb108) (o := .cells #[.int .u32 ((iQ l0 x7_1).f0), .slice A107_1 ((iQ l0 x7_1).f1).length c107_1] 86 (0, 0)) (bk_ BK108.out) hb)
                      have n1_ := iC.mk (iH (by repeat (first | (with_reducible first | exact HB.out | apply iF | apply iG | apply iI | refine iK ?_ GE108.out) | exact HB.out)) hb)
                      clear BK108
                      clear HB
                      have BK108 := n0_
                      have HB := n1_
                      clear n0_ n1_
                      (try clear hb)
                      (try clear hb2)
                      (try clear hk)
                      (try clear hi)
                      refine hK.out _ _ ⟨(iE BK108.out 0).trans rfl, (iE BK108.out 1).trans rfl, ((HB.out.cell (World.block_lt_of_cell? w _ hw110_0)).trans hw110_0), ((HB.out.cell (World.block_lt_of_cell? w _ hw110_1)).trans hw110_1)⟩ (fun hHeld => ?_)
                      clear hK K
                      refine lK (a' := ?_) ?_ ?_
                      rotate_left
                      · show Act.put _ (some 14) _ = _
                        simp only [Act.put, List.setIfInBounds_toArray, List.set_cons_zero, List.set_cons_succ, iU, iY]
                        rfl
                      refine jH (i := 3) (N := some 15) (v := ?_) (a' := ?_) #[true, true, true, true, false, false, false, false, false, false, false, false, false, false, false, false, false, false, false] rfl rfl (iZ HT_.out (by kernel_rfl)) (fun _ _ _ h => h) (Or.inl ⟨by rfl, ?_⟩) ?_ ?_
                      rotate_left
                      · intro w'
                        go_simp
                        with_reducible rfl
                      rotate_left
                      · simp only [Act.put, List.setIfInBounds_toArray, List.set_cons_zero, List.set_cons_succ, iU, iY]
                        rfl
                      refine jH (i := 4) (N := some 16) (v := ?_) (a' := ?_) #[true, true, true, true, true, false, false, false, false, false, false, false, false, false, false, false, false, false, false] rfl rfl (iZ HT_.out (by kernel_rfl)) (fun _ _ _ h => h) (Or.inl ⟨by rfl, ?_⟩) ?_ ?_
                      rotate_left
                      · intro w'
                        go_simp
                        with_reducible rfl
                      rotate_left
                      · simp only [Act.put, List.setIfInBounds_toArray, List.set_cons_zero, List.set_cons_succ, iU, iY]
                        rfl
                      refine jH (i := 5) (N := some 17) (v := ?_) (a' := ?_) #[true, true, true, true, true, true, false, false, false, false, false, false, false, false, false, false, false, false, false] rfl rfl (iZ HT_.out (by kernel_rfl)) (fun _ _ _ h => h) (Or.inl ⟨by rfl, ?_⟩) ?_ ?_
                      rotate_left
                      · intro w'
                        go_simp
                        with_reducible rfl
                      rotate_left
                      · simp only [Act.put, List.setIfInBounds_toArray, List.set_cons_zero, List.set_cons_succ, iU, iY]
                        rfl
                      refine jH (i := 6) (N := some 18) (v := ?_) (a' := ?_) #[true, true, true, true, true, true, true, false, false, false, false, false, false, false, false, false, false, false, false] rfl rfl (iZ HT_.out (by kernel_rfl)) (fun _ _ _ h => h) (Or.inl ⟨by rfl, ?_⟩) ?_ ?_
                      rotate_left
                      · intro w'
                        go_simp
                        with_reducible rfl
                      rotate_left
                      · simp only [Act.put, List.setIfInBounds_toArray, List.set_cons_zero, List.set_cons_succ, iU, iY]
                        rfl
                      refine jH (i := 7) (N := some 19) (v := ?_) (a' := ?_) #[true, true, true, true, true, true, true, true, false, false, false, false, false, false, false, false, false, false, false] rfl rfl (iZ HT_.out (by kernel_rfl)) (fun _ _ _ h => h) (Or.inl ⟨by rfl, ?_⟩) ?_ ?_
                      rotate_left
                      · intro w'
                        go_simp
                        with_reducible rfl
                      rotate_left
                      · simp only [Act.put, List.setIfInBounds_toArray, List.set_cons_zero, List.set_cons_succ, iU, iY]
                        rfl
                      refine jH (i := 8) (N := some 20) (v := ?_) (a' := ?_) #[true, true, true, true, true, true, true, true, true, false, false, false, false, false, false, false, false, false, false] rfl rfl (iZ HT_.out (by kernel_rfl)) (fun _ _ _ h => h) (Or.inl ⟨by rfl, ?_⟩) ?_ ?_
                      rotate_left
                      · intro w'
                        go_simp
                        with_reducible rfl
                      rotate_left
                      · simp only [Act.put, List.setIfInBounds_toArray, List.set_cons_zero, List.set_cons_succ, iU, iY]
                        rfl
                      refine jH (i := 10) (N := some 22) (v := ?_) (a' := ?_) #[true, true, true, true, true, true, true, true, true, false, true, false, false, false, false, false, false, false, false] rfl rfl (iZ HT_.out (by kernel_rfl)) (fun _ _ _ h => h) (Or.inl ⟨by rfl, ?_⟩) ?_ ?_
                      rotate_left
                      · intro w'
                        go_simp
                        with_reducible rfl
                      rotate_left
                      · simp only [Act.put, List.setIfInBounds_toArray, List.set_cons_zero, List.set_cons_succ, iU, iY]
                        rfl
                      refine jH (i := 11) (N := some 23) (v := ?_) (a' := ?_) #[true, true, true, true, true, true, true, true, true, false, true, true, false, false, false, false, false, false, false] rfl rfl (iZ HT_.out (by kernel_rfl)) (fun _ _ _ h => h) (Or.inl ⟨by rfl, ?_⟩) ?_ ?_
                      rotate_left
                      · intro w'
                        go_simp
                        with_reducible rfl
                      rotate_left
                      · simp only [Act.put, List.setIfInBounds_toArray, List.set_cons_zero, List.set_cons_succ, iU, iY]
                        rfl
                      refine jH (i := 12) (N := some 24) (v := ?_) (a' := ?_) #[true, true, true, true, true, true, true, true, true, false, true, true, true, false, false, false, false, false, false] rfl rfl (iZ HT_.out (by kernel_rfl)) (fun _ _ _ h => h) (Or.inl ⟨by rfl, ?_⟩) ?_ ?_
                      rotate_left
                      · intro w'
                        go_simp
                        with_reducible rfl
                      rotate_left
                      · simp only [Act.put, List.setIfInBounds_toArray, List.set_cons_zero, List.set_cons_succ, iU, iY]
                        rfl
                      refine jH (i := 13) (N := some 25) (v := ?_) (a' := ?_) #[true, true, true, true, true, true, true, true, true, false, true, true, true, true, false, false, false, false, false] rfl rfl (iZ HT_.out (by kernel_rfl)) (fun _ _ _ h => h) (Or.inl ⟨by rfl, ?_⟩) ?_ ?_
                      rotate_left
                      · intro w'
                        go_simp
                        with_reducible rfl
                      rotate_left
                      · simp only [Act.put, List.setIfInBounds_toArray, List.set_cons_zero, List.set_cons_succ, iU, iY]
                        rfl
                      refine jH (i := 14) (N := some 26) (v := ?_) (a' := ?_) #[true, true, true, true, true, true, true, true, true, false, true, true, true, true, true, false, false, false, false] rfl rfl (iZ HT_.out (by kernel_rfl)) (fun _ _ _ h => h) (Or.inl ⟨by rfl, ?_⟩) ?_ ?_
                      rotate_left
                      · intro w'
                        go_simp
                        with_reducible rfl
                      rotate_left
                      · simp only [Act.put, List.setIfInBounds_toArray, List.set_cons_zero, List.set_cons_succ, iU, iY]
                        rfl
                      refine lX (i := 9) (N := some 21) (v := ?_) (a' := ?_) #[true, true, true, true, true, true, true, true, true, true, true, true, true, true, true, false, false, false, false] rfl rfl (jL HT_.out HW_.out (by kernel_rfl)) (fun _ _ _ h => h) (Or.inl ⟨by rfl, ?_⟩) hHeld ?_ ?_
                      rotate_left
                      · rintro w' ⟨s0, s1, s2, s3⟩
                        go_simp
                        with_reducible rfl
                      rotate_left
                      · simp only [Act.put, List.setIfInBounds_toArray, List.set_cons_zero, List.set_cons_succ, iU, iY]
                        rfl
                      refine lX (i := 15) (N := some 27) (v := ?_) (a' := ?_) #[true, true, true, true, true, true, true, true, true, true, true, true, true, true, true, true, false, false, false] rfl rfl (jL HT_.out HW_.out (by kernel_rfl)) (fun _ _ _ h => h) (Or.inl ⟨by rfl, ?_⟩) hHeld ?_ ?_
                      rotate_left
                      · rintro w' ⟨s0, s1, s2, s3⟩
                        go_simp
                        with_reducible rfl
                      rotate_left
                      · simp only [Act.put, List.setIfInBounds_toArray, List.set_cons_zero, List.set_cons_succ, iU, iY]
                        rfl
                      refine jH (i := 16) (N := some 28) (v := ?_) (a' := ?_) #[true, true, true, true, true, true, true, true, true, true, true, true, true, true, true, true, true, false, false] rfl rfl (iZ HT_.out (by kernel_rfl)) (fun _ _ _ h => h) (Or.inl ⟨by rfl, ?_⟩) ?_ ?_
                      rotate_left
                      · intro w'
                        go_simp
                        with_reducible rfl
                      rotate_left
                      · simp only [Act.put, List.setIfInBounds_toArray, List.set_cons_zero, List.set_cons_succ, iU, iY]
                        rfl
                      refine jH (i := 17) (N := some 29) (v := ?_) (a' := ?_) #[true, true, true, true, true, true, true, true, true, true, true, true, true, true, true, true, true, true, false] rfl rfl (iZ HT_.out (by kernel_rfl)) (fun _ _ _ h => h) (Or.inl ⟨by rfl, ?_⟩) ?_ ?_
                      rotate_left
                      · intro w'
                        go_simp
                        with_reducible rfl
                      rotate_left
                      · simp only [Act.put, List.setIfInBounds_toArray, List.set_cons_zero, List.set_cons_succ, iU, iY]
                        rfl
                      refine jH (i := 18) (N := some 30) (v := ?_) (a' := ?_) #[true, true, true, true, true, true, true, true, true, true, true, true, true, true, true, true, true, true, true] rfl rfl (iZ HT_.out (by kernel_rfl)) (fun _ _ _ h => h) (Or.inl ⟨by rfl, ?_⟩) ?_ ?_
                      rotate_left
                      · intro w'
                        go_simp
                        with_reducible rfl
                      rotate_left
                      · simp only [Act.put, List.setIfInBounds_toArray, List.set_cons_zero, List.set_cons_succ, iU, iY]
                        rfl
                      refine yS (oP HT_.out (by kernel_rfl)) ?_
                      try go_wp2
                      go_ret
                      exact ⟨by first | rfl | (simp [iP, iO] <;> rfl) | (simp only [← hji8]; first | rfl | (simp [iP, iO] <;> rfl)) | (simp [*, iP, iO] <;> rfl), by repeat (first | (with_reducible first | exact HB.out | apply iF | apply iG | apply iI | refine iK ?_ GE108.out) | exact HB.out)⟩
                    · rw [if_neg c11] at H
                      have c11b0 : decide (((iQ l0 x7_1).f0) ≤ ((iQ l0 (ji8)).f0)) = false := decide_eq_false c11
                      clear c11
                      have H' := iC.mk H
                      clear H
                      have p107 : 0 ≤ (x7_1 : Int) := of_decide_eq_true asm_
                      have q107 : x7_1 < (l0.length : Int) := of_decide_eq_true asm_
                      obtain ⟨ad107, A107_1, c107_1, e107, hx107_0, hx107_1, hl107_1, hi107_1⟩ := kZ HR0.out x7_1 p107 q107
                      cases e107
                      replace hx107_0 := (HB.out.cell (World.block_lt_of_cell? w _ hx107_0)).trans hx107_0
                      replace hx107_1 := (HB.out.cell (World.block_lt_of_cell? w _ hx107_1)).trans hx107_1
                      have HR107_1 := iC.mk hi107_1
                      have HC107_1 := iC.mk hl107_1
                      clear hi107_1 hl107_1
                      replace p107 := eq_true p107
                      replace q107 := eq_true q107
                      try go_wp2_with (first | ((with_reducible refine jT (N := 4) rfl ?_); refine jK ?hg (N := 4) ?hd (cs := #[.int .u32 0, .slice none 0 0]) (t := 86) ?hr ?_; (case hd => rfl); (case hg => rfl); (case hr => first | (go_simp; done) | (go_simp; rfl)); intro gb108 hg w17 hbox hb; have n0_ := iC.mk (iH hb_ hb); have n1_ := iC.mk (hbox); have n2_ := iC.mk ((by rw [hg]; exact (iR hb_) : w.heap.size ≤ gb108)); have n3_ := iC.mk ((by rw [hg]; exact (iR hb_) : w.heap.size ≤ gb108)); clear HB; have HB := n0_; have BK108 := n1_; have GW108 := n2_; have GE108 := n3_; clear n0_ n1_ n2_ n3_; clear hb hbox hg; have hcz18_0 : w17.cell? ⟨gb108, 0, none⟩ = some (.int .u32 0) := (iE BK108.out 0).trans rfl; have hcz18_1 : w17.cell? ⟨gb108, 1, none⟩ = some (.slice none 0 0) := (iE BK108.out 1).trans rfl; have hfz18_0 := iD BK108.out 0; have hfz18_1 := iD BK108.out 1))
                      have n0_ : iC (((w17.setCell ⟨gb108, 0, none⟩ (.int .u32 ((iQ l0 x7_1).f0))).setCell ⟨gb108, 1, none⟩ (.slice A107_1 ((iQ l0 x7_1).f1).length c107_1)).heap[gb108]? = some (.cells #[.int .u32 ((iQ l0 x7_1).f0), .slice A107_1 ((iQ l0 x7_1).f1).length c107_1] 86 (0, 0))) := ⟨by (with_reducible repeat (first | refine kX ?_ _ | refine kN ?_ | refine kS ?_ _)); refine mZ (cs := #[.int .u32 ((iQ l0 x7_1).f0), .slice none 0 0]) ?_ 1 _ rfl; (with_reducible repeat (first | refine kX ?_ _ | refine kN ?_ | refine kS ?_ _)); refine mZ (cs := #[.int .u32 0, .slice none 0 0]) ?_ 0 _ rfl; (with_reducible repeat (first | refine kX ?_ _ | refine kN ?_ | refine kS ?_ _)); exact BK108.out⟩
                      have n1_ : iC (Below w.heap.size w ((w17.setCell ⟨gb108, 0, none⟩ (.int .u32 ((iQ l0 x7_1).f0))).setCell ⟨gb108, 1, none⟩ (.slice A107_1 ((iQ l0 x7_1).f1).length c107_1))) := ⟨by repeat (first | (with_reducible first | exact HB.out | apply iF | apply iG | apply iI | refine iK ?_ GE108.out) | exact HB.out)⟩
                      (try clear BK108)
                      (try clear HB)
                      generalize ((w17.setCell ⟨gb108, 0, none⟩ (.int .u32 ((iQ l0 x7_1).f0))).setCell ⟨gb108, 1, none⟩ (.slice A107_1 ((iQ l0 x7_1).f1).length c107_1)) = w19 at n0_ n1_ ⊢
                      have BK108 := n0_
                      have HB := n1_
                      clear n0_ n1_
                      have n0_ := iC.mk (kN BK108.out)
                      have n1_ := iC.mk (iI HB.out)
                      clear BK108
                      clear HB
                      have BK108 := n0_
                      have HB := n1_
                      clear n0_ n1_
                      have p110 : 0 ≤ ((ji8) : Int) := of_decide_eq_true asm_
                      have q110 : (ji8) < (l0.length : Int) := of_decide_eq_true asm_
                      obtain ⟨ad110, A110_1, c110_1, e110, hx110_0, hx110_1, hl110_1, hi110_1⟩ := kZ HR0.out (ji8) p110 q110
                      have hw110_1 := hx110_1
                      have hw110_0 := hx110_0
                      obtain rfl : ad107 = ad110 := (by injection e110)
                      replace hx110_0 := (HB.out.cell (World.block_lt_of_cell? w _ hx110_0)).trans hx110_0
                      replace hx110_1 := (HB.out.cell (World.block_lt_of_cell? w _ hx110_1)).trans hx110_1
                      have HR110_1 := iC.mk hi110_1
                      have HC110_1 := iC.mk hl110_1
                      clear hi110_1 hl110_1
                      replace p110 := eq_true p110
                      replace q110 := eq_true q110
                      refine qH (n := 19) (S := fun w' => w'.cell? ⟨gb108, 0, none⟩ = some (.int .u32 ((iQ l0 x7_1).f0)) ∧ w'.cell? ⟨gb108, 1, none⟩ = some (.slice A107_1 ((iQ l0 x7_1).f1).length c107_1) ∧ w'.cell? (ad107.add (((ji8)).toNat * 2)) = some (.int .u32 ((iQ l0 (ji8)).f0)) ∧ w'.cell? ⟨(ad107.add (((ji8)).toNat * 2)).block, (ad107.add (((ji8)).toNat * 2)).off + 1, none⟩ = some (.slice A110_1 ((iQ l0 (ji8)).f1).length c110_1)) (ds := []) #[false, false, false, false, false, false, false, false, false, false, false, false, false, false, false, false, false, false, false] (by kernel_rfl) rfl rfl ⟨(iE BK108.out 0).trans rfl, (iE BK108.out 1).trans rfl, ((HB.out.cell (World.block_lt_of_cell? w _ hw110_0)).trans hw110_0), ((HB.out.cell (World.block_lt_of_cell? w _ hw110_1)).trans hw110_1)⟩ (fun hHeld => ?_); refine lZ code_history.tab4 code_history.bits4 (fun HT_ HW_ => ?_)
                      generalize w19.drew = w20 at BK108 HB HR110_1 hx110_0 hx110_1 hHeld ⊢
                      refine jH (i := 0) (N := some 12) (v := ?_) (a' := ?_) #[true, false, false, false, false, false, false, false, false, false, false, false, false, false, false, false, false, false, false] rfl rfl (iZ HT_.out (by kernel_rfl)) (fun _ _ _ h => h) (Or.inl ⟨by rfl, ?_⟩) ?_ ?_
                      rotate_left
                      · intro w'
                        go_simp
                        with_reducible rfl
                      rotate_left
                      · simp only [Act.put, List.setIfInBounds_toArray, List.set_cons_zero, List.set_cons_succ, iU, iY]
                        rfl
                      refine lX (i := 1) (N := some 13) (v := ?_) (a' := ?_) #[true, true, false, false, false, false, false, false, false, false, false, false, false, false, false, false, false, false, false] rfl rfl (jL HT_.out HW_.out (by kernel_rfl)) (fun _ _ _ h => h) (Or.inl ⟨by rfl, ?_⟩) hHeld ?_ ?_
                      rotate_left
                      · rintro w' ⟨s0, s1, s2, s3⟩
                        go_simp
                        with_reducible rfl
                      rotate_left
                      · simp only [Act.put, List.setIfInBounds_toArray, List.set_cons_zero, List.set_cons_succ, iU, iY]
                        rfl
                      refine one_ (i := 2) (N := some 14) #[true, true, true, false, false, false, false, false, false, false, false, false, false, false, false, false, false, false, false] rfl rfl (lG HT_.out (by kernel_rfl)) (by decide) (fun K hK => ?_)
                      refine qW Tryd.func62 (by kernel_rfl) rfl #[.slice A107_1 ((iQ l0 x7_1).f1).length c107_1] (by rfl) rfl rfl (by (try simp only [List.map_toArray, List.map_cons, List.map_nil]); first | done | rfl | (simp only [List.length_drop, List.length_take]; rfl)) ?_
                      with_reducible refine (code_batch.calls _ _ ((iQ l0 x7_1).f1) true _ ?side1 ?side2 A5.out).mono ?_
                      (case side1 => repeat (first | exact (Kd.C_below HR107_1.out HB.out) | (with_reducible refine Kd.C_alloc ?_ _) | (with_reducible refine Kd.C_drewN ?_ _) | (with_reducible refine Kd.C_drew ?_)))
                      (case side2 => exact HC107_1.out)
                      rintro e w21 ⟨rfl, hb⟩
                      refine ⟨_, rfl, ?_⟩
                      have n0_ := iC.mk (jI (g := gb108) (o := .cells #[.int .u32 ((iQ l0 x7_1).f0), .slice A107_1 ((iQ l0 x7_1).f1).length c107_1] 86 (0, 0)) (bk_ BK108.out) hb)
                      have n1_ := iC.mk (iH (by repeat (first | (with_reducible first | exact HB.out | apply iF | apply iG | apply iI | refine iK ?_ GE108.out) | exact HB.out)) hb)
                      clear BK108
                      clear HB
                      have BK108 := n0_
                      have HB := n1_
                      clear n0_ n1_
                      (try clear hb)
                      (try clear hb2)
                      (try clear hk)
                      (try clear hi)
                      refine hK.out _ _ ⟨(iE BK108.out 0).trans rfl, (iE BK108.out 1).trans rfl, ((HB.out.cell (World.block_lt_of_cell? w _ hw110_0)).trans hw110_0), ((HB.out.cell (World.block_lt_of_cell? w _ hw110_1)).trans hw110_1)⟩ (fun hHeld => ?_)
                      clear hK K
                      refine lK (a' := ?_) ?_ ?_
                      rotate_left
                      · show Act.put _ (some 14) _ = _
                        simp only [Act.put, List.setIfInBounds_toArray, List.set_cons_zero, List.set_cons_succ, iU, iY]
                        rfl
                      refine jH (i := 3) (N := some 15) (v := ?_) (a' := ?_) #[true, true, true, true, false, false, false, false, false, false, false, false, false, false, false, false, false, false, false] rfl rfl (iZ HT_.out (by kernel_rfl)) (fun _ _ _ h => h) (Or.inl ⟨by rfl, ?_⟩) ?_ ?_
                      rotate_left
                      · intro w'
                        go_simp
                        with_reducible rfl
                      rotate_left
                      · simp only [Act.put, List.setIfInBounds_toArray, List.set_cons_zero, List.set_cons_succ, iU, iY]
                        rfl
                      refine jH (i := 4) (N := some 16) (v := ?_) (a' := ?_) #[true, true, true, true, true, false, false, false, false, false, false, false, false, false, false, false, false, false, false] rfl rfl (iZ HT_.out (by kernel_rfl)) (fun _ _ _ h => h) (Or.inl ⟨by rfl, ?_⟩) ?_ ?_
                      rotate_left
                      · intro w'
                        go_simp
                        with_reducible rfl
                      rotate_left
                      · simp only [Act.put, List.setIfInBounds_toArray, List.set_cons_zero, List.set_cons_succ, iU, iY]
                        rfl
                      refine jH (i := 5) (N := some 17) (v := ?_) (a' := ?_) #[true, true, true, true, true, true, false, false, false, false, false, false, false, false, false, false, false, false, false] rfl rfl (iZ HT_.out (by kernel_rfl)) (fun _ _ _ h => h) (Or.inl ⟨by rfl, ?_⟩) ?_ ?_
                      rotate_left
                      · intro w'
                        go_simp
                        with_reducible rfl
                      rotate_left
                      · simp only [Act.put, List.setIfInBounds_toArray, List.set_cons_zero, List.set_cons_succ, iU, iY]
                        rfl
                      refine jH (i := 6) (N := some 18) (v := ?_) (a' := ?_) #[true, true, true, true, true, true, true, false, false, false, false, false, false, false, false, false, false, false, false] rfl rfl (iZ HT_.out (by kernel_rfl)) (fun _ _ _ h => h) (Or.inl ⟨by rfl, ?_⟩) ?_ ?_
                      rotate_left
                      · intro w'
                        go_simp
                        with_reducible rfl
                      rotate_left
                      · simp only [Act.put, List.setIfInBounds_toArray, List.set_cons_zero, List.set_cons_succ, iU, iY]
                        rfl
                      refine jH (i := 7) (N := some 19) (v := ?_) (a' := ?_) #[true, true, true, true, true, true, true, true, false, false, false, false, false, false, false, false, false, false, false] rfl rfl (iZ HT_.out (by kernel_rfl)) (fun _ _ _ h => h) (Or.inl ⟨by rfl, ?_⟩) ?_ ?_
                      rotate_left
                      · intro w'
                        go_simp
                        with_reducible rfl
                      rotate_left
                      · simp only [Act.put, List.setIfInBounds_toArray, List.set_cons_zero, List.set_cons_succ, iU, iY]
                        rfl
                      refine jH (i := 8) (N := some 20) (v := ?_) (a' := ?_) #[true, true, true, true, true, true, true, true, true, false, false, false, false, false, false, false, false, false, false] rfl rfl (iZ HT_.out (by kernel_rfl)) (fun _ _ _ h => h) (Or.inl ⟨by rfl, ?_⟩) ?_ ?_
                      rotate_left
                      · intro w'
                        go_simp
                        with_reducible rfl
                      rotate_left
                      · simp only [Act.put, List.setIfInBounds_toArray, List.set_cons_zero, List.set_cons_succ, iU, iY]
                        rfl
                      refine jH (i := 10) (N := some 22) (v := ?_) (a' := ?_) #[true, true, true, true, true, true, true, true, true, false, true, false, false, false, false, false, false, false, false] rfl rfl (iZ HT_.out (by kernel_rfl)) (fun _ _ _ h => h) (Or.inl ⟨by rfl, ?_⟩) ?_ ?_
                      rotate_left
                      · intro w'
                        go_simp
                        with_reducible rfl
                      rotate_left
                      · simp only [Act.put, List.setIfInBounds_toArray, List.set_cons_zero, List.set_cons_succ, iU, iY]
                        rfl
                      refine jH (i := 11) (N := some 23) (v := ?_) (a' := ?_) #[true, true, true, true, true, true, true, true, true, false, true, true, false, false, false, false, false, false, false] rfl rfl (iZ HT_.out (by kernel_rfl)) (fun _ _ _ h => h) (Or.inl ⟨by rfl, ?_⟩) ?_ ?_
                      rotate_left
                      · intro w'
                        go_simp
                        with_reducible rfl
                      rotate_left
                      · simp only [Act.put, List.setIfInBounds_toArray, List.set_cons_zero, List.set_cons_succ, iU, iY]
                        rfl
                      refine jH (i := 12) (N := some 24) (v := ?_) (a' := ?_) #[true, true, true, true, true, true, true, true, true, false, true, true, true, false, false, false, false, false, false] rfl rfl (iZ HT_.out (by kernel_rfl)) (fun _ _ _ h => h) (Or.inl ⟨by rfl, ?_⟩) ?_ ?_
                      rotate_left
                      · intro w'
                        go_simp
                        with_reducible rfl
                      rotate_left
                      · simp only [Act.put, List.setIfInBounds_toArray, List.set_cons_zero, List.set_cons_succ, iU, iY]
                        rfl
                      refine jH (i := 13) (N := some 25) (v := ?_) (a' := ?_) #[true, true, true, true, true, true, true, true, true, false, true, true, true, true, false, false, false, false, false] rfl rfl (iZ HT_.out (by kernel_rfl)) (fun _ _ _ h => h) (Or.inl ⟨by rfl, ?_⟩) ?_ ?_
                      rotate_left
                      · intro w'
                        go_simp
                        with_reducible rfl
                      rotate_left
                      · simp only [Act.put, List.setIfInBounds_toArray, List.set_cons_zero, List.set_cons_succ, iU, iY]
                        rfl
                      refine jH (i := 14) (N := some 26) (v := ?_) (a' := ?_) #[true, true, true, true, true, true, true, true, true, false, true, true, true, true, true, false, false, false, false] rfl rfl (iZ HT_.out (by kernel_rfl)) (fun _ _ _ h => h) (Or.inl ⟨by rfl, ?_⟩) ?_ ?_
                      rotate_left
                      · intro w'
                        go_simp
                        with_reducible rfl
                      rotate_left
                      · simp only [Act.put, List.setIfInBounds_toArray, List.set_cons_zero, List.set_cons_succ, iU, iY]
                        rfl
                      refine lX (i := 9) (N := some 21) (v := ?_) (a' := ?_) #[true, true, true, true, true, true, true, true, true, true, true, true, true, true, true, false, false, false, false] rfl rfl (jL HT_.out HW_.out (by kernel_rfl)) (fun _ _ _ h => h) (Or.inl ⟨by rfl, ?_⟩) hHeld ?_ ?_
                      rotate_left
                      · rintro w' ⟨s0, s1, s2, s3⟩
                        go_simp
                        with_reducible rfl
                      rotate_left
                      · simp only [Act.put, List.setIfInBounds_toArray, List.set_cons_zero, List.set_cons_succ, iU, iY]
                        rfl
                      refine lX (i := 15) (N := some 27) (v := ?_) (a' := ?_) #[true, true, true, true, true, true, true, true, true, true, true, true, true, true, true, true, false, false, false] rfl rfl (jL HT_.out HW_.out (by kernel_rfl)) (fun _ _ _ h => h) (Or.inl ⟨by rfl, ?_⟩) hHeld ?_ ?_
                      rotate_left
                      · rintro w' ⟨s0, s1, s2, s3⟩
                        go_simp
                        with_reducible rfl
                      rotate_left
                      · simp only [Act.put, List.setIfInBounds_toArray, List.set_cons_zero, List.set_cons_succ, iU, iY]
                        rfl
                      refine jH (i := 16) (N := some 28) (v := ?_) (a' := ?_) #[true, true, true, true, true, true, true, true, true, true, true, true, true, true, true, true, true, false, false] rfl rfl (iZ HT_.out (by kernel_rfl)) (fun _ _ _ h => h) (Or.inl ⟨by rfl, ?_⟩) ?_ ?_
                      rotate_left
                      · intro w'
                        go_simp
                        with_reducible rfl
                      rotate_left
                      · simp only [Act.put, List.setIfInBounds_toArray, List.set_cons_zero, List.set_cons_succ, iU, iY]
                        rfl
                      refine jH (i := 17) (N := some 29) (v := ?_) (a' := ?_) #[true, true, true, true, true, true, true, true, true, true, true, true, true, true, true, true, true, true, false] rfl rfl (iZ HT_.out (by kernel_rfl)) (fun _ _ _ h => h) (Or.inl ⟨by rfl, ?_⟩) ?_ ?_
                      rotate_left
                      · intro w'
                        go_simp
                        with_reducible rfl
                      rotate_left
                      · simp only [Act.put, List.setIfInBounds_toArray, List.set_cons_zero, List.set_cons_succ, iU, iY]
                        rfl
                      refine jH (i := 18) (N := some 30) (v := ?_) (a' := ?_) #[true, true, true, true, true, true, true, true, true, true, true, true, true, true, true, true, true, true, true] rfl rfl (iZ HT_.out (by kernel_rfl)) (fun _ _ _ h => h) (Or.inl ⟨by rfl, ?_⟩) ?_ ?_
                      rotate_left
                      · intro w'
                        go_simp
                        with_reducible rfl
                      rotate_left
                      · simp only [Act.put, List.setIfInBounds_toArray, List.set_cons_zero, List.set_cons_succ, iU, iY]
                        rfl
                      refine yS (oP HT_.out (by kernel_rfl)) ?_
                      try go_wp2
                      go_roundg k1
                      case measure => have := HK1.out; omega
                      case rel => exact ⟨(wrap64 (x7_1 + 1)), (by first | rfl | (simp; done) | (simp [*]; done)), H', ⟨by have := HK1.out; omega⟩, ⟨by repeat (first | (with_reducible first | exact HB.out | apply iF | apply iG | apply iI | refine iK ?_ GE108.out) | exact HB.out)⟩⟩
                  · rw [if_neg c10] at H
                    exact absurd H (by simp)
                · rw [if_neg c9] at H
                  exact absurd H (by simp)
              · rw [if_neg c7] at H
                have c7b0 : decide (0 < x7_1) = false := decide_eq_false c7
                clear c7
                have H' := iC.mk H
                clear H
                have p107 : 0 ≤ (x7_1 : Int) := of_decide_eq_true asm_
                have q107 : x7_1 < (l0.length : Int) := of_decide_eq_true asm_
                obtain ⟨ad107, A107_1, c107_1, e107, hx107_0, hx107_1, hl107_1, hi107_1⟩ := kZ HR0.out x7_1 p107 q107
                cases e107
                replace hx107_0 := (HB.out.cell (World.block_lt_of_cell? w _ hx107_0)).trans hx107_0
                replace hx107_1 := (HB.out.cell (World.block_lt_of_cell? w _ hx107_1)).trans hx107_1
                have HR107_1 := iC.mk hi107_1
                have HC107_1 := iC.mk hl107_1
                clear hi107_1 hl107_1
                replace p107 := eq_true p107
                replace q107 := eq_true q107
                try go_wp2_with (first | ((with_reducible refine jT (N := 4) rfl ?_); refine jK ?hg (N := 4) ?hd (cs := #[.int .u32 0, .slice none 0 0]) (t := 86) ?hr ?_; (case hd => rfl); (case hg => rfl); (case hr => first | (go_simp; done) | (go_simp; rfl)); intro gb108 hg w22 hbox hb; have n0_ := iC.mk (iH hb_ hb); have n1_ := iC.mk (hbox); have n2_ := iC.mk ((by rw [hg]; exact (iR hb_) : w.heap.size ≤ gb108)); have n3_ := iC.mk ((by rw [hg]; exact (iR hb_) : w.heap.size ≤ gb108)); clear HB; have HB := n0_; have BK108 := n1_; have GW108 := n2_; have GE108 := n3_; clear n0_ n1_ n2_ n3_; clear hb hbox hg; have hcz23_0 : w22.cell? ⟨gb108, 0, none⟩ = some (.int .u32 0) := (iE BK108.out 0).trans rfl; have hcz23_1 : w22.cell? ⟨gb108, 1, none⟩ = some (.slice none 0 0) := (iE BK108.out 1).trans rfl; have hfz23_0 := iD BK108.out 0; have hfz23_1 := iD BK108.out 1))
                have n0_ : iC (((w22.setCell ⟨gb108, 0, none⟩ (.int .u32 ((iQ l0 x7_1).f0))).setCell ⟨gb108, 1, none⟩ (.slice A107_1 ((iQ l0 x7_1).f1).length c107_1)).heap[gb108]? = some (.cells #[.int .u32 ((iQ l0 x7_1).f0), .slice A107_1 ((iQ l0 x7_1).f1).length c107_1] 86 (0, 0))) := ⟨by (with_reducible repeat (first | refine kX ?_ _ | refine kN ?_ | refine kS ?_ _)); refine mZ (cs := #[.int .u32 ((iQ l0 x7_1).f0), .slice none 0 0]) ?_ 1 _ rfl; (with_reducible repeat (first | refine kX ?_ _ | refine kN ?_ | refine kS ?_ _)); refine mZ (cs := #[.int .u32 0, .slice none 0 0]) ?_ 0 _ rfl; (with_reducible repeat (first | refine kX ?_ _ | refine kN ?_ | refine kS ?_ _)); exact BK108.out⟩
                have n1_ : iC (Below w.heap.size w ((w22.setCell ⟨gb108, 0, none⟩ (.int .u32 ((iQ l0 x7_1).f0))).setCell ⟨gb108, 1, none⟩ (.slice A107_1 ((iQ l0 x7_1).f1).length c107_1))) := ⟨by repeat (first | (with_reducible first | exact HB.out | apply iF | apply iG | apply iI | refine iK ?_ GE108.out) | exact HB.out)⟩
                (try clear BK108)
                (try clear HB)
                generalize ((w22.setCell ⟨gb108, 0, none⟩ (.int .u32 ((iQ l0 x7_1).f0))).setCell ⟨gb108, 1, none⟩ (.slice A107_1 ((iQ l0 x7_1).f1).length c107_1)) = w24 at n0_ n1_ ⊢
                have BK108 := n0_
                have HB := n1_
                clear n0_ n1_
                have n0_ := iC.mk (kN BK108.out)
                have n1_ := iC.mk (iI HB.out)
                clear BK108
                clear HB
                have BK108 := n0_
                have HB := n1_
                clear n0_ n1_
                refine qH (n := 19) (S := fun w' => w'.cell? ⟨gb108, 0, none⟩ = some (.int .u32 ((iQ l0 x7_1).f0)) ∧ w'.cell? ⟨gb108, 1, none⟩ = some (.slice A107_1 ((iQ l0 x7_1).f1).length c107_1)) (ds := []) #[false, false, false, false, false, false, false, false, false, false, false, false, false, false, false, false, false, false, false] (by kernel_rfl) rfl rfl ⟨(iE BK108.out 0).trans rfl, (iE BK108.out 1).trans rfl⟩ (fun hHeld => ?_); refine lZ code_history.tab4 code_history.bits4 (fun HT_ HW_ => ?_)
                generalize w24.drew = w25 at BK108 HB hHeld ⊢
                refine jH (i := 0) (N := some 12) (v := ?_) (a' := ?_) #[true, false, false, false, false, false, false, false, false, false, false, false, false, false, false, false, false, false, false] rfl rfl (iZ HT_.out (by kernel_rfl)) (fun _ _ _ h => h) (Or.inl ⟨by rfl, ?_⟩) ?_ ?_
                rotate_left
                · intro w'
                  go_simp
                  with_reducible rfl
                rotate_left
                · simp only [Act.put, List.setIfInBounds_toArray, List.set_cons_zero, List.set_cons_succ, iU, iY]
                  rfl
                refine lX (i := 1) (N := some 13) (v := ?_) (a' := ?_) #[true, true, false, false, false, false, false, false, false, false, false, false, false, false, false, false, false, false, false] rfl rfl (jL HT_.out HW_.out (by kernel_rfl)) (fun _ _ _ h => h) (Or.inl ⟨by rfl, ?_⟩) hHeld ?_ ?_
                rotate_left
                · rintro w' ⟨s0, s1⟩
                  go_simp
                  with_reducible rfl
                rotate_left
                · simp only [Act.put, List.setIfInBounds_toArray, List.set_cons_zero, List.set_cons_succ, iU, iY]
                  rfl
                refine one_ (i := 2) (N := some 14) #[true, true, true, false, false, false, false, false, false, false, false, false, false, false, false, false, false, false, false] rfl rfl (lG HT_.out (by kernel_rfl)) (by decide) (fun K hK => ?_)
                refine qW Tryd.func62 (by kernel_rfl) rfl #[.slice A107_1 ((iQ l0 x7_1).f1).length c107_1] (by rfl) rfl rfl (by (try simp only [List.map_toArray, List.map_cons, List.map_nil]); first | done | rfl | (simp only [List.length_drop, List.length_take]; rfl)) ?_
                with_reducible refine (code_batch.calls _ _ ((iQ l0 x7_1).f1) true _ ?side1 ?side2 A5.out).mono ?_
                (case side1 => repeat (first | exact (Kd.C_below HR107_1.out HB.out) | (with_reducible refine Kd.C_alloc ?_ _) | (with_reducible refine Kd.C_drewN ?_ _) | (with_reducible refine Kd.C_drew ?_)))
                (case side2 => exact HC107_1.out)
                rintro e w26 ⟨rfl, hb⟩
                refine ⟨_, rfl, ?_⟩
                have n0_ := iC.mk (jI (g := gb108) (o := .cells #[.int .u32 ((iQ l0 x7_1).f0), .slice A107_1 ((iQ l0 x7_1).f1).length c107_1] 86 (0, 0)) (bk_ BK108.out) hb)
                have n1_ := iC.mk (iH (by repeat (first | (with_reducible first | exact HB.out | apply iF | apply iG | apply iI | refine iK ?_ GE108.out) | exact HB.out)) hb)
                clear BK108
                clear HB
                have BK108 := n0_
                have HB := n1_
                clear n0_ n1_
                (try clear hb)
                (try clear hb2)
                (try clear hk)
                (try clear hi)
                refine hK.out _ _ ⟨(iE BK108.out 0).trans rfl, (iE BK108.out 1).trans rfl⟩ (fun hHeld => ?_)
                clear hK K
                refine lK (a' := ?_) ?_ ?_
                rotate_left
                · show Act.put _ (some 14) _ = _
                  simp only [Act.put, List.setIfInBounds_toArray, List.set_cons_zero, List.set_cons_succ, iU, iY]
                  rfl
                refine jH (i := 3) (N := some 15) (v := ?_) (a' := ?_) #[true, true, true, true, false, false, false, false, false, false, false, false, false, false, false, false, false, false, false] rfl rfl (iZ HT_.out (by kernel_rfl)) (fun _ _ _ h => h) (Or.inl ⟨by rfl, ?_⟩) ?_ ?_
                rotate_left
                · intro w'
                  go_simp
                  with_reducible rfl
                rotate_left
                · simp only [Act.put, List.setIfInBounds_toArray, List.set_cons_zero, List.set_cons_succ, iU, iY]
                  rfl
                refine jH (i := 4) (N := some 16) (v := ?_) (a' := ?_) #[true, true, true, true, true, false, false, false, false, false, false, false, false, false, false, false, false, false, false] rfl rfl (iZ HT_.out (by kernel_rfl)) (fun _ _ _ h => h) (Or.inl ⟨by rfl, ?_⟩) ?_ ?_
                rotate_left
                · intro w'
                  go_simp
                  with_reducible rfl
                rotate_left
                · simp only [Act.put, List.setIfInBounds_toArray, List.set_cons_zero, List.set_cons_succ, iU, iY]
                  rfl
                refine jH (i := 5) (N := some 17) (v := ?_) (a' := ?_) #[true, true, true, true, true, true, false, false, false, false, false, false, false, false, false, false, false, false, false] rfl rfl (iZ HT_.out (by kernel_rfl)) (fun _ _ _ h => h) (Or.inl ⟨by rfl, ?_⟩) ?_ ?_
                rotate_left
                · intro w'
                  go_simp
                  with_reducible rfl
                rotate_left
                · simp only [Act.put, List.setIfInBounds_toArray, List.set_cons_zero, List.set_cons_succ, iU, iY]
                  rfl
                refine jH (i := 6) (N := some 18) (v := ?_) (a' := ?_) #[true, true, true, true, true, true, true, false, false, false, false, false, false, false, false, false, false, false, false] rfl rfl (iZ HT_.out (by kernel_rfl)) (fun _ _ _ h => h) (Or.inl ⟨by rfl, ?_⟩) ?_ ?_
                rotate_left
                · intro w'
                  go_simp
                  with_reducible rfl
                rotate_left
                · simp only [Act.put, List.setIfInBounds_toArray, List.set_cons_zero, List.set_cons_succ, iU, iY]
                  rfl
                refine jH (i := 7) (N := some 19) (v := ?_) (a' := ?_) #[true, true, true, true, true, true, true, true, false, false, false, false, false, false, false, false, false, false, false] rfl rfl (iZ HT_.out (by kernel_rfl)) (fun _ _ _ h => h) (Or.inl ⟨by rfl, ?_⟩) ?_ ?_
                rotate_left
                · intro w'
                  go_simp
                  with_reducible rfl
                rotate_left
                · simp only [Act.put, List.setIfInBounds_toArray, List.set_cons_zero, List.set_cons_succ, iU, iY]
                  rfl
                refine jH (i := 8) (N := some 20) (v := undef) (a' := ?_) #[true, true, true, true, true, true, true, true, true, false, false, false, false, false, false, false, false, false, false] rfl rfl (iZ HT_.out (by kernel_rfl)) (fun _ _ _ h => h) (Or.inr ⟨by rfl, rfl⟩) ?_ ?_
                rotate_left
                · simp only [Act.put, List.setIfInBounds_toArray, List.set_cons_zero, List.set_cons_succ, iU, iY]
                  rfl
                refine jH (i := 9) (N := some 21) (v := undef) (a' := ?_) #[true, true, true, true, true, true, true, true, true, true, false, false, false, false, false, false, false, false, false] rfl rfl (iZ HT_.out (by kernel_rfl)) (fun _ _ _ h => h) (Or.inr ⟨by rfl, rfl⟩) ?_ ?_
                rotate_left
                · simp only [Act.put, List.setIfInBounds_toArray, List.set_cons_zero, List.set_cons_succ, iU, iY]
                  rfl
                refine jH (i := 10) (N := some 22) (v := undef) (a' := ?_) #[true, true, true, true, true, true, true, true, true, true, true, false, false, false, false, false, false, false, false] rfl rfl (iZ HT_.out (by kernel_rfl)) (fun _ _ _ h => h) (Or.inr ⟨by rfl, rfl⟩) ?_ ?_
                rotate_left
                · simp only [Act.put, List.setIfInBounds_toArray, List.set_cons_zero, List.set_cons_succ, iU, iY]
                  rfl
                refine jH (i := 11) (N := some 23) (v := undef) (a' := ?_) #[true, true, true, true, true, true, true, true, true, true, true, true, false, false, false, false, false, false, false] rfl rfl (iZ HT_.out (by kernel_rfl)) (fun _ _ _ h => h) (Or.inr ⟨by rfl, rfl⟩) ?_ ?_
                rotate_left
                · simp only [Act.put, List.setIfInBounds_toArray, List.set_cons_zero, List.set_cons_succ, iU, iY]
                  rfl
                refine jH (i := 12) (N := some 24) (v := undef) (a' := ?_) #[true, true, true, true, true, true, true, true, true, true, true, true, true, false, false, false, false, false, false] rfl rfl (iZ HT_.out (by kernel_rfl)) (fun _ _ _ h => h) (Or.inr ⟨by rfl, rfl⟩) ?_ ?_
                rotate_left
                · simp only [Act.put, List.setIfInBounds_toArray, List.set_cons_zero, List.set_cons_succ, iU, iY]
                  rfl
                refine jH (i := 13) (N := some 25) (v := undef) (a' := ?_) #[true, true, true, true, true, true, true, true, true, true, true, true, true, true, false, false, false, false, false] rfl rfl (iZ HT_.out (by kernel_rfl)) (fun _ _ _ h => h) (Or.inr ⟨by rfl, rfl⟩) ?_ ?_
                rotate_left
                · simp only [Act.put, List.setIfInBounds_toArray, List.set_cons_zero, List.set_cons_succ, iU, iY]
                  rfl
                refine jH (i := 14) (N := some 26) (v := undef) (a' := ?_) #[true, true, true, true, true, true, true, true, true, true, true, true, true, true, true, false, false, false, false] rfl rfl (iZ HT_.out (by kernel_rfl)) (fun _ _ _ h => h) (Or.inr ⟨by rfl, rfl⟩) ?_ ?_
                rotate_left
                · simp only [Act.put, List.setIfInBounds_toArray, List.set_cons_zero, List.set_cons_succ, iU, iY]
                  rfl
                refine jH (i := 15) (N := some 27) (v := undef) (a' := ?_) #[true, true, true, true, true, true, true, true, true, true, true, true, true, true, true, true, false, false, false] rfl rfl (iZ HT_.out (by kernel_rfl)) (fun _ _ _ h => h) (Or.inr ⟨by rfl, rfl⟩) ?_ ?_
                rotate_left
                · simp only [Act.put, List.setIfInBounds_toArray, List.set_cons_zero, List.set_cons_succ, iU, iY]
                  rfl
                refine jH (i := 16) (N := some 28) (v := undef) (a' := ?_) #[true, true, true, true, true, true, true, true, true, true, true, true, true, true, true, true, true, false, false] rfl rfl (iZ HT_.out (by kernel_rfl)) (fun _ _ _ h => h) (Or.inr ⟨by rfl, rfl⟩) ?_ ?_
                rotate_left
                · simp only [Act.put, List.setIfInBounds_toArray, List.set_cons_zero, List.set_cons_succ, iU, iY]
                  rfl
                refine jH (i := 17) (N := some 29) (v := ?_) (a' := ?_) #[true, true, true, true, true, true, true, true, true, true, true, true, true, true, true, true, true, true, false] rfl rfl (iZ HT_.out (by kernel_rfl)) (fun _ _ _ h => h) (Or.inl ⟨by rfl, ?_⟩) ?_ ?_
                rotate_left
                · intro w'
                  go_simp
                  with_reducible rfl
                rotate_left
                · simp only [Act.put, List.setIfInBounds_toArray, List.set_cons_zero, List.set_cons_succ, iU, iY]
                  rfl
                refine jH (i := 18) (N := some 30) (v := ?_) (a' := ?_) #[true, true, true, true, true, true, true, true, true, true, true, true, true, true, true, true, true, true, true] rfl rfl (iZ HT_.out (by kernel_rfl)) (fun _ _ _ h => h) (Or.inl ⟨by rfl, ?_⟩) ?_ ?_
                rotate_left
                · intro w'
                  go_simp
                  with_reducible rfl
                rotate_left
                · simp only [Act.put, List.setIfInBounds_toArray, List.set_cons_zero, List.set_cons_succ, iU, iY]
                  rfl
                refine yS (oP HT_.out (by kernel_rfl)) ?_
                try go_wp2
                go_roundg k1
                case measure => have := HK1.out; omega
                case rel => exact ⟨(wrap64 (x7_1 + 1)), (by first | rfl | (simp; done) | (simp [*]; done)), H', ⟨by have := HK1.out; omega⟩, ⟨by repeat (first | (with_reducible first | exact HB.out | apply iF | apply iG | apply iI | refine iK ?_ GE108.out) | exact HB.out)⟩⟩
            · replace c6 := Bool.eq_false_iff.mpr c6
              subst c6
              have H1 : (some false) = some r := by rw [if_neg (show ¬ (false = true) by decide)] at H; exact H
              clear H
              have H := H1
              clear H1
              obtain rfl := Option.some.inj H
              have p107 : 0 ≤ (x7_1 : Int) := of_decide_eq_true asm_
              have q107 : x7_1 < (l0.length : Int) := of_decide_eq_true asm_
              obtain ⟨ad107, A107_1, c107_1, e107, hx107_0, hx107_1, hl107_1, hi107_1⟩ := kZ HR0.out x7_1 p107 q107
              cases e107
              replace hx107_0 := (HB.out.cell (World.block_lt_of_cell? w _ hx107_0)).trans hx107_0
              replace hx107_1 := (HB.out.cell (World.block_lt_of_cell? w _ hx107_1)).trans hx107_1
              have HR107_1 := iC.mk hi107_1
              have HC107_1 := iC.mk hl107_1
              clear hi107_1 hl107_1
              replace p107 := eq_true p107
              replace q107 := eq_true q107
              try go_wp2_with (first | ((with_reducible refine jT (N := 4) rfl ?_); refine jK ?hg (N := 4) ?hd (cs := #[.int .u32 0, .slice none 0 0]) (t := 86) ?hr ?_; (case hd => rfl); (case hg => rfl); (case hr => first | (go_simp; done) | (go_simp; rfl)); intro gb108 hg w27 hbox hb; have n0_ := iC.mk (iH hb_ hb); have n1_ := iC.mk (hbox); have n2_ := iC.mk ((by rw [hg]; exact (iR hb_) : w.heap.size ≤ gb108)); have n3_ := iC.mk ((by rw [hg]; exact (iR hb_) : w.heap.size ≤ gb108)); clear HB; have HB := n0_; have BK108 := n1_; have GW108 := n2_; have GE108 := n3_; clear n0_ n1_ n2_ n3_; clear hb hbox hg; have hcz28_0 : w27.cell? ⟨gb108, 0, none⟩ = some (.int .u32 0) := (iE BK108.out 0).trans rfl; have hcz28_1 : w27.cell? ⟨gb108, 1, none⟩ = some (.slice none 0 0) := (iE BK108.out 1).trans rfl; have hfz28_0 := iD BK108.out 0; have hfz28_1 := iD BK108.out 1))
              have n0_ : iC (((w27.setCell ⟨gb108, 0, none⟩ (.int .u32 ((iQ l0 x7_1).f0))).setCell ⟨gb108, 1, none⟩ (.slice A107_1 ((iQ l0 x7_1).f1).length c107_1)).heap[gb108]? = some (.cells #[.int .u32 ((iQ l0 x7_1).f0), .slice A107_1 ((iQ l0 x7_1).f1).length c107_1] 86 (0, 0))) := ⟨by (with_reducible repeat (first | refine kX ?_ _ | refine kN ?_ | refine kS ?_ _)); refine mZ (cs := #[.int .u32 ((iQ l0 x7_1).f0), .slice none 0 0]) ?_ 1 _ rfl; (with_reducible repeat (first | refine kX ?_ _ | refine kN ?_ | refine kS ?_ _)); refine mZ (cs := #[.int .u32 0, .slice none 0 0]) ?_ 0 _ rfl; (with_reducible repeat (first | refine kX ?_ _ | refine kN ?_ | refine kS ?_ _)); exact BK108.out⟩
              have n1_ : iC (Below w.heap.size w ((w27.setCell ⟨gb108, 0, none⟩ (.int .u32 ((iQ l0 x7_1).f0))).setCell ⟨gb108, 1, none⟩ (.slice A107_1 ((iQ l0 x7_1).f1).length c107_1))) := ⟨by repeat (first | (with_reducible first | exact HB.out | apply iF | apply iG | apply iI | refine iK ?_ GE108.out) | exact HB.out)⟩
              (try clear BK108)
              (try clear HB)
              generalize ((w27.setCell ⟨gb108, 0, none⟩ (.int .u32 ((iQ l0 x7_1).f0))).setCell ⟨gb108, 1, none⟩ (.slice A107_1 ((iQ l0 x7_1).f1).length c107_1)) = w29 at n0_ n1_ ⊢
              have BK108 := n0_
              have HB := n1_
              clear n0_ n1_
              have n0_ := iC.mk (kN BK108.out)
              have n1_ := iC.mk (iI HB.out)
              clear BK108
              clear HB
              have BK108 := n0_
              have HB := n1_
              clear n0_ n1_
              refine qH (n := 19) (S := fun w' => w'.cell? ⟨gb108, 0, none⟩ = some (.int .u32 ((iQ l0 x7_1).f0)) ∧ w'.cell? ⟨gb108, 1, none⟩ = some (.slice A107_1 ((iQ l0 x7_1).f1).length c107_1)) (ds := []) #[false, false, false, false, false, false, false, false, false, false, false, false, false, false, false, false, false, false, false] (by kernel_rfl) rfl rfl ⟨(iE BK108.out 0).trans rfl, (iE BK108.out 1).trans rfl⟩ (fun hHeld => ?_); refine lZ code_history.tab4 code_history.bits4 (fun HT_ HW_ => ?_)
              generalize w29.drew = w30 at BK108 HB hHeld ⊢
              refine jH (i := 0) (N := some 12) (v := ?_) (a' := ?_) #[true, false, false, false, false, false, false, false, false, false, false, false, false, false, false, false, false, false, false] rfl rfl (iZ HT_.out (by kernel_rfl)) (fun _ _ _ h => h) (Or.inl ⟨by rfl, ?_⟩) ?_ ?_
              rotate_left
              · intro w'
                go_simp
                with_reducible rfl
              rotate_left
              · simp only [Act.put, List.setIfInBounds_toArray, List.set_cons_zero, List.set_cons_succ, iU, iY]
                rfl
              refine lX (i := 1) (N := some 13) (v := ?_) (a' := ?_) #[true, true, false, false, false, false, false, false, false, false, false, false, false, false, false, false, false, false, false] rfl rfl (jL HT_.out HW_.out (by kernel_rfl)) (fun _ _ _ h => h) (Or.inl ⟨by rfl, ?_⟩) hHeld ?_ ?_
              rotate_left
              · rintro w' ⟨s0, s1⟩
                go_simp
                with_reducible rfl
              rotate_left
              · simp only [Act.put, List.setIfInBounds_toArray, List.set_cons_zero, List.set_cons_succ, iU, iY]
                rfl
              refine one_ (i := 2) (N := some 14) #[true, true, true, false, false, false, false, false, false, false, false, false, false, false, false, false, false, false, false] rfl rfl (lG HT_.out (by kernel_rfl)) (by decide) (fun K hK => ?_)
              refine qW Tryd.func62 (by kernel_rfl) rfl #[.slice A107_1 ((iQ l0 x7_1).f1).length c107_1] (by rfl) rfl rfl (by (try simp only [List.map_toArray, List.map_cons, List.map_nil]); first | done | rfl | (simp only [List.length_drop, List.length_take]; rfl)) ?_
              with_reducible refine (code_batch.calls _ _ ((iQ l0 x7_1).f1) false _ ?side1 ?side2 A5.out).mono ?_
              (case side1 => repeat (first | exact (Kd.C_below HR107_1.out HB.out) | (with_reducible refine Kd.C_alloc ?_ _) | (with_reducible refine Kd.C_drewN ?_ _) | (with_reducible refine Kd.C_drew ?_)))
              (case side2 => exact HC107_1.out)
              rintro e w31 ⟨rfl, hb⟩
              refine ⟨_, rfl, ?_⟩
              have n0_ := iC.mk (jI (g := gb108) (o := .cells #[.int .u32 ((iQ l0 x7_1).f0), .slice A107_1 ((iQ l0 x7_1).f1).length c107_1] 86 (0, 0)) (bk_ BK108.out) hb)
              have n1_ := iC.mk (iH (by repeat (first | (with_reducible first | exact HB.out | apply iF | apply iG | apply iI | refine iK ?_ GE108.out) | exact HB.out)) hb)
              clear BK108
              clear HB
              have BK108 := n0_
              have HB := n1_
              clear n0_ n1_
              (try clear hb)
              (try clear hb2)
              (try clear hk)
              (try clear hi)
              refine hK.out _ _ ⟨(iE BK108.out 0).trans rfl, (iE BK108.out 1).trans rfl⟩ (fun hHeld => ?_)
              clear hK K
              refine lK (a' := ?_) ?_ ?_
              rotate_left
              · show Act.put _ (some 14) _ = _
                simp only [Act.put, List.setIfInBounds_toArray, List.set_cons_zero, List.set_cons_succ, iU, iY]
                rfl
              refine jH (i := 3) (N := some 15) (v := ?_) (a' := ?_) #[true, true, true, true, false, false, false, false, false, false, false, false, false, false, false, false, false, false, false] rfl rfl (iZ HT_.out (by kernel_rfl)) (fun _ _ _ h => h) (Or.inl ⟨by rfl, ?_⟩) ?_ ?_
              rotate_left
              · intro w'
                go_simp
                with_reducible rfl
              rotate_left
              · simp only [Act.put, List.setIfInBounds_toArray, List.set_cons_zero, List.set_cons_succ, iU, iY]
                rfl
              refine jH (i := 4) (N := some 16) (v := ?_) (a' := ?_) #[true, true, true, true, true, false, false, false, false, false, false, false, false, false, false, false, false, false, false] rfl rfl (iZ HT_.out (by kernel_rfl)) (fun _ _ _ h => h) (Or.inl ⟨by rfl, ?_⟩) ?_ ?_
              rotate_left
              · intro w'
                go_simp
                with_reducible rfl
              rotate_left
              · simp only [Act.put, List.setIfInBounds_toArray, List.set_cons_zero, List.set_cons_succ, iU, iY]
                rfl
              refine jH (i := 5) (N := some 17) (v := undef) (a' := ?_) #[true, true, true, true, true, true, false, false, false, false, false, false, false, false, false, false, false, false, false] rfl rfl (iZ HT_.out (by kernel_rfl)) (fun _ _ _ h => h) (Or.inr ⟨by rfl, rfl⟩) ?_ ?_
              rotate_left
              · simp only [Act.put, List.setIfInBounds_toArray, List.set_cons_zero, List.set_cons_succ, iU, iY]
                rfl
              refine jH (i := 6) (N := some 18) (v := undef) (a' := ?_) #[true, true, true, true, true, true, true, false, false, false, false, false, false, false, false, false, false, false, false] rfl rfl (iZ HT_.out (by kernel_rfl)) (fun _ _ _ h => h) (Or.inr ⟨by rfl, rfl⟩) ?_ ?_
              rotate_left
              · simp only [Act.put, List.setIfInBounds_toArray, List.set_cons_zero, List.set_cons_succ, iU, iY]
                rfl
              refine jH (i := 7) (N := some 19) (v := undef) (a' := ?_) #[true, true, true, true, true, true, true, true, false, false, false, false, false, false, false, false, false, false, false] rfl rfl (iZ HT_.out (by kernel_rfl)) (fun _ _ _ h => h) (Or.inr ⟨by rfl, rfl⟩) ?_ ?_
              rotate_left
              · simp only [Act.put, List.setIfInBounds_toArray, List.set_cons_zero, List.set_cons_succ, iU, iY]
                rfl
              refine jH (i := 8) (N := some 20) (v := undef) (a' := ?_) #[true, true, true, true, true, true, true, true, true, false, false, false, false, false, false, false, false, false, false] rfl rfl (iZ HT_.out (by kernel_rfl)) (fun _ _ _ h => h) (Or.inr ⟨by rfl, rfl⟩) ?_ ?_
              rotate_left
              · simp only [Act.put, List.setIfInBounds_toArray, List.set_cons_zero, List.set_cons_succ, iU, iY]
                rfl
              refine jH (i := 9) (N := some 21) (v := undef) (a' := ?_) #[true, true, true, true, true, true, true, true, true, true, false, false, false, false, false, false, false, false, false] rfl rfl (iZ HT_.out (by kernel_rfl)) (fun _ _ _ h => h) (Or.inr ⟨by rfl, rfl⟩) ?_ ?_
              rotate_left
              · simp only [Act.put, List.setIfInBounds_toArray, List.set_cons_zero, List.set_cons_succ, iU, iY]
                rfl
              refine jH (i := 10) (N := some 22) (v := undef) (a' := ?_) #[true, true, true, true, true, true, true, true, true, true, true, false, false, false, false, false, false, false, false] rfl rfl (iZ HT_.out (by kernel_rfl)) (fun _ _ _ h => h) (Or.inr ⟨by rfl, rfl⟩) ?_ ?_
              rotate_left
              · simp only [Act.put, List.setIfInBounds_toArray, List.set_cons_zero, List.set_cons_succ, iU, iY]
                rfl
              refine jH (i := 11) (N := some 23) (v := undef) (a' := ?_) #[true, true, true, true, true, true, true, true, true, true, true, true, false, false, false, false, false, false, false] rfl rfl (iZ HT_.out (by kernel_rfl)) (fun _ _ _ h => h) (Or.inr ⟨by rfl, rfl⟩) ?_ ?_
              rotate_left
              · simp only [Act.put, List.setIfInBounds_toArray, List.set_cons_zero, List.set_cons_succ, iU, iY]
                rfl
              refine jH (i := 12) (N := some 24) (v := undef) (a' := ?_) #[true, true, true, true, true, true, true, true, true, true, true, true, true, false, false, false, false, false, false] rfl rfl (iZ HT_.out (by kernel_rfl)) (fun _ _ _ h => h) (Or.inr ⟨by rfl, rfl⟩) ?_ ?_
              rotate_left
              · simp only [Act.put, List.setIfInBounds_toArray, List.set_cons_zero, List.set_cons_succ, iU, iY]
                rfl
              refine jH (i := 13) (N := some 25) (v := undef) (a' := ?_) #[true, true, true, true, true, true, true, true, true, true, true, true, true, true, false, false, false, false, false] rfl rfl (iZ HT_.out (by kernel_rfl)) (fun _ _ _ h => h) (Or.inr ⟨by rfl, rfl⟩) ?_ ?_
              rotate_left
              · simp only [Act.put, List.setIfInBounds_toArray, List.set_cons_zero, List.set_cons_succ, iU, iY]
                rfl
              refine jH (i := 14) (N := some 26) (v := undef) (a' := ?_) #[true, true, true, true, true, true, true, true, true, true, true, true, true, true, true, false, false, false, false] rfl rfl (iZ HT_.out (by kernel_rfl)) (fun _ _ _ h => h) (Or.inr ⟨by rfl, rfl⟩) ?_ ?_
              rotate_left
              · simp only [Act.put, List.setIfInBounds_toArray, List.set_cons_zero, List.set_cons_succ, iU, iY]
                rfl
              refine jH (i := 15) (N := some 27) (v := undef) (a' := ?_) #[true, true, true, true, true, true, true, true, true, true, true, true, true, true, true, true, false, false, false] rfl rfl (iZ HT_.out (by kernel_rfl)) (fun _ _ _ h => h) (Or.inr ⟨by rfl, rfl⟩) ?_ ?_
              rotate_left
              · simp only [Act.put, List.setIfInBounds_toArray, List.set_cons_zero, List.set_cons_succ, iU, iY]
                rfl
              refine jH (i := 16) (N := some 28) (v := undef) (a' := ?_) #[true, true, true, true, true, true, true, true, true, true, true, true, true, true, true, true, true, false, false] rfl rfl (iZ HT_.out (by kernel_rfl)) (fun _ _ _ h => h) (Or.inr ⟨by rfl, rfl⟩) ?_ ?_
              rotate_left
              · simp only [Act.put, List.setIfInBounds_toArray, List.set_cons_zero, List.set_cons_succ, iU, iY]
                rfl
              refine jH (i := 17) (N := some 29) (v := undef) (a' := ?_) #[true, true, true, true, true, true, true, true, true, true, true, true, true, true, true, true, true, true, false] rfl rfl (iZ HT_.out (by kernel_rfl)) (fun _ _ _ h => h) (Or.inr ⟨by rfl, rfl⟩) ?_ ?_
              rotate_left
              · simp only [Act.put, List.setIfInBounds_toArray, List.set_cons_zero, List.set_cons_succ, iU, iY]
                rfl
              refine jH (i := 18) (N := some 30) (v := ?_) (a' := ?_) #[true, true, true, true, true, true, true, true, true, true, true, true, true, true, true, true, true, true, true] rfl rfl (iZ HT_.out (by kernel_rfl)) (fun _ _ _ h => h) (Or.inl ⟨by rfl, ?_⟩) ?_ ?_
              rotate_left
              · intro w'
                go_simp
                with_reducible rfl
              rotate_left
              · simp only [Act.put, List.setIfInBounds_toArray, List.set_cons_zero, List.set_cons_succ, iU, iY]
                rfl
              refine yS (oP HT_.out (by kernel_rfl)) ?_
              try go_wp2
              go_ret
              exact ⟨by first | rfl | (simp [iP, iO] <;> rfl) | (simp [*, iP, iO] <;> rfl), by repeat (first | (with_reducible first | exact HB.out | apply iF | apply iG | apply iI | refine iK ?_ GE108.out) | exact HB.out)⟩
          · rw [if_neg c4] at H
            exact absurd H (by simp)
        · rw [if_neg c3] at H
          exact absurd H (by simp)
      · rw [if_neg c2] at H
        have c2b0 : decide (x7_1 < (l0.length : Int)) = false := decide_eq_false c2
        clear c2
        obtain rfl := Option.some.inj H
        go_wp2
        go_ret
        exact ⟨by first | rfl | (simp [iP, iO] <;> rfl) | (simp [*, iP, iO] <;> rfl), hb_⟩
end Go.Proofs.YtgfkgppomaapiaaDoor.K
end

section
namespace Go.Proofs.YtgfkgppomaapiaaDoor.K
open Go.RowKit Go.Proofs.YtgfkgppomaapiaaDoorW.PrintWords Go.Proofs.YtgfkgppomaapiaaDoorW.PrintLast Go.Proofs.YtgfkgppomaapiaaDoorW.PrintMore
def code_plain.f (a0_0 : Int) (a0_1 : Int) (a0_2 : Int) (l0_3 : List Int) (l0_4 : List (S139)) (a0_5 : Int) (l0_6 : List (S98)) (a0_7 : Int) (a0_8 : Int) (l0_9 : List (S86)) : Option (Bool) := if a0_0 = 0 then (if a0_1 = 0 then (if a0_2 = 0 then (if (l0_3.length : Int) = 0 then (if (l0_4.length : Int) = 0 then (if a0_5 = 0 then (if (l0_6.length : Int) = 0 then (if a0_7 = 0 then (if a0_8 = 0 then (some ((l0_9.length : Int) == 0)) else (some false)) else (some false)) else (some false)) else (some false)) else (some false)) else (some false)) else (some false)) else (some false)) else (some false)
set_option maxHeartbeats 8000000 in
set_option maxRecDepth 100000 in
theorem code_plain.calls (a0_0 : Int) (a0_1 : Int) (a0_2 : Int) (A0_3 : Option Addr) (c0_3 : Nat) (l0_3 : List Int) (A0_4 : Option Addr) (c0_4 : Nat) (l0_4 : List (S139)) (a0_5 : Int) (A0_6 : Option Addr) (c0_6 : Nat) (l0_6 : List (S98)) (a0_7 : Int) (a0_8 : Int) (A0_9 : Option Addr) (c0_9 : Nat) (l0_9 : List (S86)) (r : Bool) (w : World) (hr0_3 : Kd.C (Kd.int .i64) w A0_3 l0_3.length l0_3) (hc0_3 : l0_3.length ≤ c0_3) (hr0_4 : Kd.C k139 w A0_4 l0_4.length l0_4) (hc0_4 : l0_4.length ≤ c0_4) (hr0_6 : Kd.C k98 w A0_6 l0_6.length l0_6) (hc0_6 : l0_6.length ≤ c0_6) (hr0_9 : Kd.C k86 w A0_9 l0_9.length l0_9) (hc0_9 : l0_9.length ≤ c0_9) (h : code_plain.f a0_0 a0_1 a0_2 l0_3 l0_4 a0_5 l0_6 a0_7 a0_8 l0_9 = some r) :
    Calls Tryd.prog 67 #[.agg #[.int .u8 a0_0, .int .u32 a0_1, .int .u32 a0_2, .slice A0_3 l0_3.length c0_3, .slice A0_4 l0_4.length c0_4, .int .u32 a0_5, .slice A0_6 l0_6.length c0_6, .int .i64 a0_7, .int .i64 a0_8, .slice A0_9 l0_9.length c0_9]] w fun e w' => e = .returned (.bool r) ∧ Below w.heap.size w w' := by
  have hu30 := Tryd.underlying30
  have HR0_3 := iC.mk hr0_3
  have HC0_3 := iC.mk hc0_3
  clear hr0_3 hc0_3
  have HR0_4 := iC.mk hr0_4
  have HC0_4 := iC.mk hc0_4
  clear hr0_4 hc0_4
  have HR0_6 := iC.mk hr0_6
  have HC0_6 := iC.mk hc0_6
  clear hr0_6 hc0_6
  have HR0_9 := iC.mk hr0_9
  have HC0_9 := iC.mk hc0_9
  clear hr0_9 hc0_9
  have HB := iC.mk (Below.refl w.heap.size w)
  have H : (if a0_0 = 0 then (if a0_1 = 0 then (if a0_2 = 0 then (if (l0_3.length : Int) = 0 then (if (l0_4.length : Int) = 0 then (if a0_5 = 0 then (if (l0_6.length : Int) = 0 then (if a0_7 = 0 then (if a0_8 = 0 then (some ((l0_9.length : Int) == 0)) else (some false)) else (some false)) else (some false)) else (some false)) else (some false)) else (some false)) else (some false)) else (some false)) else (some false)) = some r := h
  clear h
  by_cases c2 : a0_0 = 0
  · rw [if_pos c2] at H
    have c2b0 : (a0_0 == 0) = true := beq_iff_eq.mpr c2
    have c2b1 : (a0_0 != 0) = false := bne_eq_false_iff_eq.mpr c2
    clear c2
    by_cases c3 : a0_1 = 0
    · rw [if_pos c3] at H
      have c3b0 : (a0_1 == 0) = true := beq_iff_eq.mpr c3
      have c3b1 : (a0_1 != 0) = false := bne_eq_false_iff_eq.mpr c3
      clear c3
      by_cases c4 : a0_2 = 0
      · rw [if_pos c4] at H
        have c4b0 : (a0_2 == 0) = true := beq_iff_eq.mpr c4
        have c4b1 : (a0_2 != 0) = false := bne_eq_false_iff_eq.mpr c4
        clear c4
        by_cases c5 : (l0_3.length : Int) = 0
        · rw [if_pos c5] at H
          have c5b0 : ((l0_3.length : Int) == 0) = true := beq_iff_eq.mpr c5
          have c5b1 : ((l0_3.length : Int) != 0) = false := bne_eq_false_iff_eq.mpr c5
          clear c5
          by_cases c6 : (l0_4.length : Int) = 0
          · rw [if_pos c6] at H
            have c6b0 : ((l0_4.length : Int) == 0) = true := beq_iff_eq.mpr c6
            have c6b1 : ((l0_4.length : Int) != 0) = false := bne_eq_false_iff_eq.mpr c6
            clear c6
            by_cases c7 : a0_5 = 0
            · rw [if_pos c7] at H
              have c7b0 : (a0_5 == 0) = true := beq_iff_eq.mpr c7
              have c7b1 : (a0_5 != 0) = false := bne_eq_false_iff_eq.mpr c7
              clear c7
              by_cases c8 : (l0_6.length : Int) = 0
              · rw [if_pos c8] at H
                have c8b0 : ((l0_6.length : Int) == 0) = true := beq_iff_eq.mpr c8
                have c8b1 : ((l0_6.length : Int) != 0) = false := bne_eq_false_iff_eq.mpr c8
                clear c8
                by_cases c9 : a0_7 = 0
                · rw [if_pos c9] at H
                  have c9b0 : (a0_7 == 0) = true := beq_iff_eq.mpr c9
                  have c9b1 : (a0_7 != 0) = false := bne_eq_false_iff_eq.mpr c9
                  clear c9
                  by_cases c10 : a0_8 = 0
                  · rw [if_pos c10] at H
                    have c10b0 : (a0_8 == 0) = true := beq_iff_eq.mpr c10
                    have c10b1 : (a0_8 != 0) = false := bne_eq_false_iff_eq.mpr c10
                    clear c10
                    obtain rfl := Option.some.inj H
                    go_enter Tryd.func67, Tryd.ntmps67
                    go_wp2_with (first | ((with_reducible refine jT (N := 1) rfl ?_); (try (refine kD (by rfl) ?_; dsimp only)); refine jK ?hg (N := 1) ?hd (cs := #[.int .u8 a0_0, .int .u32 a0_1, .int .u32 a0_2, .slice A0_3 l0_3.length c0_3, .slice A0_4 l0_4.length c0_4, .int .u32 a0_5, .slice A0_6 l0_6.length c0_6, .int .i64 a0_7, .int .i64 a0_8, .slice A0_9 l0_9.length c0_9]) (t := 30) ?hr ?_; (case hd => rfl); (case hg => rfl); (case hr => first | (go_simp; done) | (go_simp; rfl)); intro gb111 hg w11 hbox hb; have n0_ := iC.mk (iH hb_ hb); have n1_ := iC.mk (hbox); have n2_ := iC.mk ((by rw [hg]; exact (iR hb_) : w.heap.size ≤ gb111)); have n3_ := iC.mk ((by rw [hg]; exact (iR hb_) : w.heap.size ≤ gb111)); clear HB; have HB := n0_; have BK111 := n1_; have GW111 := n2_; have GE111 := n3_; clear n0_ n1_ n2_ n3_; clear hb hbox hg; have hcz12_0 : w11.cell? ⟨gb111, 0, none⟩ = some (.int .u8 a0_0) := (iE BK111.out 0).trans rfl; have hcz12_1 : w11.cell? ⟨gb111, 1, none⟩ = some (.int .u32 a0_1) := (iE BK111.out 1).trans rfl; have hcz12_2 : w11.cell? ⟨gb111, 2, none⟩ = some (.int .u32 a0_2) := (iE BK111.out 2).trans rfl; have hcz12_3 : w11.cell? ⟨gb111, 3, none⟩ = some (.slice A0_3 l0_3.length c0_3) := (iE BK111.out 3).trans rfl; have hcz12_4 : w11.cell? ⟨gb111, 4, none⟩ = some (.slice A0_4 l0_4.length c0_4) := (iE BK111.out 4).trans rfl; have hcz12_5 : w11.cell? ⟨gb111, 5, none⟩ = some (.int .u32 a0_5) := (iE BK111.out 5).trans rfl; have hcz12_6 : w11.cell? ⟨gb111, 6, none⟩ = some (.slice A0_6 l0_6.length c0_6) := (iE BK111.out 6).trans rfl; have hcz12_7 : w11.cell? ⟨gb111, 7, none⟩ = some (.int .i64 a0_7) := (iE BK111.out 7).trans rfl; have hcz12_8 : w11.cell? ⟨gb111, 8, none⟩ = some (.int .i64 a0_8) := (iE BK111.out 8).trans rfl; have hcz12_9 : w11.cell? ⟨gb111, 9, none⟩ = some (.slice A0_9 l0_9.length c0_9) := (iE BK111.out 9).trans rfl; have hfz12_0 := iD BK111.out 0; have hfz12_1 := iD BK111.out 1; have hfz12_2 := iD BK111.out 2; have hfz12_3 := iD BK111.out 3; have hfz12_4 := iD BK111.out 4; have hfz12_5 := iD BK111.out 5; have hfz12_6 := iD BK111.out 6; have hfz12_7 := iD BK111.out 7; have hfz12_8 := iD BK111.out 8; have hfz12_9 := iD BK111.out 9))
                    go_ret
                    exact ⟨by first | rfl | (simp [iP, iO] <;> rfl) | (simp [*, iP, iO] <;> rfl), by repeat (first | (with_reducible first | exact HB.out | apply iF | apply iG | apply iI | refine iK ?_ GE111.out) | exact HB.out)⟩
                  · rw [if_neg c10] at H
                    have c10b0 : (a0_8 == 0) = false := beq_eq_false_iff_ne.mpr c10
                    have c10b1 : (a0_8 != 0) = true := bne_iff_ne.mpr c10
                    obtain rfl := Option.some.inj H
                    go_enter Tryd.func67, Tryd.ntmps67
                    go_wp2_with (first | ((with_reducible refine jT (N := 1) rfl ?_); (try (refine kD (by rfl) ?_; dsimp only)); refine jK ?hg (N := 1) ?hd (cs := #[.int .u8 a0_0, .int .u32 a0_1, .int .u32 a0_2, .slice A0_3 l0_3.length c0_3, .slice A0_4 l0_4.length c0_4, .int .u32 a0_5, .slice A0_6 l0_6.length c0_6, .int .i64 a0_7, .int .i64 a0_8, .slice A0_9 l0_9.length c0_9]) (t := 30) ?hr ?_; (case hd => rfl); (case hg => rfl); (case hr => first | (go_simp; done) | (go_simp; rfl)); intro gb111 hg w13 hbox hb; have n0_ := iC.mk (iH hb_ hb); have n1_ := iC.mk (hbox); have n2_ := iC.mk ((by rw [hg]; exact (iR hb_) : w.heap.size ≤ gb111)); have n3_ := iC.mk ((by rw [hg]; exact (iR hb_) : w.heap.size ≤ gb111)); clear HB; have HB := n0_; have BK111 := n1_; have GW111 := n2_; have GE111 := n3_; clear n0_ n1_ n2_ n3_; clear hb hbox hg; have hcz14_0 : w13.cell? ⟨gb111, 0, none⟩ = some (.int .u8 a0_0) := (iE BK111.out 0).trans rfl; have hcz14_1 : w13.cell? ⟨gb111, 1, none⟩ = some (.int .u32 a0_1) := (iE BK111.out 1).trans rfl; have hcz14_2 : w13.cell? ⟨gb111, 2, none⟩ = some (.int .u32 a0_2) := (iE BK111.out 2).trans rfl; have hcz14_3 : w13.cell? ⟨gb111, 3, none⟩ = some (.slice A0_3 l0_3.length c0_3) := (iE BK111.out 3).trans rfl; have hcz14_4 : w13.cell? ⟨gb111, 4, none⟩ = some (.slice A0_4 l0_4.length c0_4) := (iE BK111.out 4).trans rfl; have hcz14_5 : w13.cell? ⟨gb111, 5, none⟩ = some (.int .u32 a0_5) := (iE BK111.out 5).trans rfl; have hcz14_6 : w13.cell? ⟨gb111, 6, none⟩ = some (.slice A0_6 l0_6.length c0_6) := (iE BK111.out 6).trans rfl; have hcz14_7 : w13.cell? ⟨gb111, 7, none⟩ = some (.int .i64 a0_7) := (iE BK111.out 7).trans rfl; have hcz14_8 : w13.cell? ⟨gb111, 8, none⟩ = some (.int .i64 a0_8) := (iE BK111.out 8).trans rfl; have hcz14_9 : w13.cell? ⟨gb111, 9, none⟩ = some (.slice A0_9 l0_9.length c0_9) := (iE BK111.out 9).trans rfl; have hfz14_0 := iD BK111.out 0; have hfz14_1 := iD BK111.out 1; have hfz14_2 := iD BK111.out 2; have hfz14_3 := iD BK111.out 3; have hfz14_4 := iD BK111.out 4; have hfz14_5 := iD BK111.out 5; have hfz14_6 := iD BK111.out 6; have hfz14_7 := iD BK111.out 7; have hfz14_8 := iD BK111.out 8; have hfz14_9 := iD BK111.out 9))
                    go_ret
                    exact ⟨by first | rfl | (simp [iP, iO] <;> rfl) | (simp [*, iP, iO] <;> rfl), by repeat (first | (with_reducible first | exact HB.out | apply iF | apply iG | apply iI | refine iK ?_ GE111.out) | exact HB.out)⟩
                · rw [if_neg c9] at H
                  have c9b0 : (a0_7 == 0) = false := beq_eq_false_iff_ne.mpr c9
                  have c9b1 : (a0_7 != 0) = true := bne_iff_ne.mpr c9
                  obtain rfl := Option.some.inj H
                  go_enter Tryd.func67, Tryd.ntmps67
                  go_wp2_with (first | ((with_reducible refine jT (N := 1) rfl ?_); (try (refine kD (by rfl) ?_; dsimp only)); refine jK ?hg (N := 1) ?hd (cs := #[.int .u8 a0_0, .int .u32 a0_1, .int .u32 a0_2, .slice A0_3 l0_3.length c0_3, .slice A0_4 l0_4.length c0_4, .int .u32 a0_5, .slice A0_6 l0_6.length c0_6, .int .i64 a0_7, .int .i64 a0_8, .slice A0_9 l0_9.length c0_9]) (t := 30) ?hr ?_; (case hd => rfl); (case hg => rfl); (case hr => first | (go_simp; done) | (go_simp; rfl)); intro gb111 hg w15 hbox hb; have n0_ := iC.mk (iH hb_ hb); have n1_ := iC.mk (hbox); have n2_ := iC.mk ((by rw [hg]; exact (iR hb_) : w.heap.size ≤ gb111)); have n3_ := iC.mk ((by rw [hg]; exact (iR hb_) : w.heap.size ≤ gb111)); clear HB; have HB := n0_; have BK111 := n1_; have GW111 := n2_; have GE111 := n3_; clear n0_ n1_ n2_ n3_; clear hb hbox hg; have hcz16_0 : w15.cell? ⟨gb111, 0, none⟩ = some (.int .u8 a0_0) := (iE BK111.out 0).trans rfl; have hcz16_1 : w15.cell? ⟨gb111, 1, none⟩ = some (.int .u32 a0_1) := (iE BK111.out 1).trans rfl; have hcz16_2 : w15.cell? ⟨gb111, 2, none⟩ = some (.int .u32 a0_2) := (iE BK111.out 2).trans rfl; have hcz16_3 : w15.cell? ⟨gb111, 3, none⟩ = some (.slice A0_3 l0_3.length c0_3) := (iE BK111.out 3).trans rfl; have hcz16_4 : w15.cell? ⟨gb111, 4, none⟩ = some (.slice A0_4 l0_4.length c0_4) := (iE BK111.out 4).trans rfl; have hcz16_5 : w15.cell? ⟨gb111, 5, none⟩ = some (.int .u32 a0_5) := (iE BK111.out 5).trans rfl; have hcz16_6 : w15.cell? ⟨gb111, 6, none⟩ = some (.slice A0_6 l0_6.length c0_6) := (iE BK111.out 6).trans rfl; have hcz16_7 : w15.cell? ⟨gb111, 7, none⟩ = some (.int .i64 a0_7) := (iE BK111.out 7).trans rfl; have hcz16_8 : w15.cell? ⟨gb111, 8, none⟩ = some (.int .i64 a0_8) := (iE BK111.out 8).trans rfl; have hcz16_9 : w15.cell? ⟨gb111, 9, none⟩ = some (.slice A0_9 l0_9.length c0_9) := (iE BK111.out 9).trans rfl; have hfz16_0 := iD BK111.out 0; have hfz16_1 := iD BK111.out 1; have hfz16_2 := iD BK111.out 2; have hfz16_3 := iD BK111.out 3; have hfz16_4 := iD BK111.out 4; have hfz16_5 := iD BK111.out 5; have hfz16_6 := iD BK111.out 6; have hfz16_7 := iD BK111.out 7; have hfz16_8 := iD BK111.out 8; have hfz16_9 := iD BK111.out 9))
                  go_ret
                  exact ⟨by first | rfl | (simp [iP, iO] <;> rfl) | (simp [*, iP, iO] <;> rfl), by repeat (first | (with_reducible first | exact HB.out | apply iF | apply iG | apply iI | refine iK ?_ GE111.out) | exact HB.out)⟩
              · rw [if_neg c8] at H
                have c8b0 : ((l0_6.length : Int) == 0) = false := beq_eq_false_iff_ne.mpr c8
                have c8b1 : ((l0_6.length : Int) != 0) = true := bne_iff_ne.mpr c8
                have c8b2 : ¬ (l0_6 = []) := fun h_ => c8 (by rw [h_]; rfl)
                obtain rfl := Option.some.inj H
                go_enter Tryd.func67, Tryd.ntmps67
                go_wp2_with (first | ((with_reducible refine jT (N := 1) rfl ?_); (try (refine kD (by rfl) ?_; dsimp only)); refine jK ?hg (N := 1) ?hd (cs := #[.int .u8 a0_0, .int .u32 a0_1, .int .u32 a0_2, .slice A0_3 l0_3.length c0_3, .slice A0_4 l0_4.length c0_4, .int .u32 a0_5, .slice A0_6 l0_6.length c0_6, .int .i64 a0_7, .int .i64 a0_8, .slice A0_9 l0_9.length c0_9]) (t := 30) ?hr ?_; (case hd => rfl); (case hg => rfl); (case hr => first | (go_simp; done) | (go_simp; rfl)); intro gb111 hg w17 hbox hb; have n0_ := iC.mk (iH hb_ hb); have n1_ := iC.mk (hbox); have n2_ := iC.mk ((by rw [hg]; exact (iR hb_) : w.heap.size ≤ gb111)); have n3_ := iC.mk ((by rw [hg]; exact (iR hb_) : w.heap.size ≤ gb111)); clear HB; have HB := n0_; have BK111 := n1_; have GW111 := n2_; have GE111 := n3_; clear n0_ n1_ n2_ n3_; clear hb hbox hg; have hcz18_0 : w17.cell? ⟨gb111, 0, none⟩ = some (.int .u8 a0_0) := (iE BK111.out 0).trans rfl; have hcz18_1 : w17.cell? ⟨gb111, 1, none⟩ = some (.int .u32 a0_1) := (iE BK111.out 1).trans rfl; have hcz18_2 : w17.cell? ⟨gb111, 2, none⟩ = some (.int .u32 a0_2) := (iE BK111.out 2).trans rfl; have hcz18_3 : w17.cell? ⟨gb111, 3, none⟩ = some (.slice A0_3 l0_3.length c0_3) := (iE BK111.out 3).trans rfl; have hcz18_4 : w17.cell? ⟨gb111, 4, none⟩ = some (.slice A0_4 l0_4.length c0_4) := (iE BK111.out 4).trans rfl; have hcz18_5 : w17.cell? ⟨gb111, 5, none⟩ = some (.int .u32 a0_5) := (iE BK111.out 5).trans rfl; have hcz18_6 : w17.cell? ⟨gb111, 6, none⟩ = some (.slice A0_6 l0_6.length c0_6) := (iE BK111.out 6).trans rfl; have hcz18_7 : w17.cell? ⟨gb111, 7, none⟩ = some (.int .i64 a0_7) := (iE BK111.out 7).trans rfl; have hcz18_8 : w17.cell? ⟨gb111, 8, none⟩ = some (.int .i64 a0_8) := (iE BK111.out 8).trans rfl; have hcz18_9 : w17.cell? ⟨gb111, 9, none⟩ = some (.slice A0_9 l0_9.length c0_9) := (iE BK111.out 9).trans rfl; have hfz18_0 := iD BK111.out 0; have hfz18_1 := iD BK111.out 1; have hfz18_2 := iD BK111.out 2; have hfz18_3 := iD BK111.out 3; have hfz18_4 := iD BK111.out 4; have hfz18_5 := iD BK111.out 5; have hfz18_6 := iD BK111.out 6; have hfz18_7 := iD BK111.out 7; have hfz18_8 := iD BK111.out 8; have hfz18_9 := iD BK111.out 9))
                go_ret
                exact ⟨by first | rfl | (simp [iP, iO] <;> rfl) | (simp [*, iP, iO] <;> rfl), by repeat (first | (with_reducible first | exact HB.out | apply iF | apply iG | apply iI | refine iK ?_ GE111.out) | exact HB.out)⟩
            · rw [if_neg c7] at H
              have c7b0 : (a0_5 == 0) = false := beq_eq_false_iff_ne.mpr c7
              have c7b1 : (a0_5 != 0) = true := bne_iff_ne.mpr c7
              obtain rfl := Option.some.inj H
              go_enter Tryd.func67, Tryd.ntmps67
              go_wp2_with (first | ((with_reducible refine jT (N := 1) rfl ?_); (try (refine kD (by rfl) ?_; dsimp only)); refine jK ?hg (N := 1) ?hd (cs := #[.int .u8 a0_0, .int .u32 a0_1, .int .u32 a0_2, .slice A0_3 l0_3.length c0_3, .slice A0_4 l0_4.length c0_4, .int .u32 a0_5, .slice A0_6 l0_6.length c0_6, .int .i64 a0_7, .int .i64 a0_8, .slice A0_9 l0_9.length c0_9]) (t := 30) ?hr ?_; (case hd => rfl); (case hg => rfl); (case hr => first | (go_simp; done) | (go_simp; rfl)); intro gb111 hg w19 hbox hb; have n0_ := iC.mk (iH hb_ hb); have n1_ := iC.mk (hbox); have n2_ := iC.mk ((by rw [hg]; exact (iR hb_) : w.heap.size ≤ gb111)); have n3_ := iC.mk ((by rw [hg]; exact (iR hb_) : w.heap.size ≤ gb111)); clear HB; have HB := n0_; have BK111 := n1_; have GW111 := n2_; have GE111 := n3_; clear n0_ n1_ n2_ n3_; clear hb hbox hg; have hcz20_0 : w19.cell? ⟨gb111, 0, none⟩ = some (.int .u8 a0_0) := (iE BK111.out 0).trans rfl; have hcz20_1 : w19.cell? ⟨gb111, 1, none⟩ = some (.int .u32 a0_1) := (iE BK111.out 1).trans rfl; have hcz20_2 : w19.cell? ⟨gb111, 2, none⟩ = some (.int .u32 a0_2) := (iE BK111.out 2).trans rfl; have hcz20_3 : w19.cell? ⟨gb111, 3, none⟩ = some (.slice A0_3 l0_3.length c0_3) := (iE BK111.out 3).trans rfl; have hcz20_4 : w19.cell? ⟨gb111, 4, none⟩ = some (.slice A0_4 l0_4.length c0_4) := (iE BK111.out 4).trans rfl; have hcz20_5 : w19.cell? ⟨gb111, 5, none⟩ = some (.int .u32 a0_5) := (iE BK111.out 5).trans rfl; have hcz20_6 : w19.cell? ⟨gb111, 6, none⟩ = some (.slice A0_6 l0_6.length c0_6) := (iE BK111.out 6).trans rfl; have hcz20_7 : w19.cell? ⟨gb111, 7, none⟩ = some (.int .i64 a0_7) := (iE BK111.out 7).trans rfl; have hcz20_8 : w19.cell? ⟨gb111, 8, none⟩ = some (.int .i64 a0_8) := (iE BK111.out 8).trans rfl; have hcz20_9 : w19.cell? ⟨gb111, 9, none⟩ = some (.slice A0_9 l0_9.length c0_9) := (iE BK111.out 9).trans rfl; have hfz20_0 := iD BK111.out 0; have hfz20_1 := iD BK111.out 1; have hfz20_2 := iD BK111.out 2; have hfz20_3 := iD BK111.out 3; have hfz20_4 := iD BK111.out 4; have hfz20_5 := iD BK111.out 5; have hfz20_6 := iD BK111.out 6; have hfz20_7 := iD BK111.out 7; have hfz20_8 := iD BK111.out 8; have hfz20_9 := iD BK111.out 9))
              go_ret
              exact ⟨by first | rfl | (simp [iP, iO] <;> rfl) | (simp [*, iP, iO] <;> rfl), by repeat (first | (with_reducible first | exact HB.out | apply iF | apply iG | apply iI | refine iK ?_ GE111.out) | exact HB.out)⟩
          · rw [if_neg c6] at H
            have c6b0 : ((l0_4.length : Int) == 0) = false := beq_eq_false_iff_ne.mpr c6
            have c6b1 : ((l0_4.length : Int) != 0) = true := bne_iff_ne.mpr c6
            have c6b2 : ¬ (l0_4 = []) := fun h_ => c6 (by rw [h_]; rfl)
            obtain rfl := Option.some.inj H
            go_enter Tryd.func67, Tryd.ntmps67
            go_wp2_with (first | ((with_reducible refine jT (N := 1) rfl ?_); (try (refine kD (by rfl) ?_; dsimp only)); refine jK ?hg (N := 1) ?hd (cs := #[.int .u8 a0_0, .int .u32 a0_1, .int .u32 a0_2, .slice A0_3 l0_3.length c0_3, .slice A0_4 l0_4.length c0_4, .int .u32 a0_5, .slice A0_6 l0_6.length c0_6, .int .i64 a0_7, .int .i64 a0_8, .slice A0_9 l0_9.length c0_9]) (t := 30) ?hr ?_; (case hd => rfl); (case hg => rfl); (case hr => first | (go_simp; done) | (go_simp; rfl)); intro gb111 hg w21 hbox hb; have n0_ := iC.mk (iH hb_ hb); have n1_ := iC.mk (hbox); have n2_ := iC.mk ((by rw [hg]; exact (iR hb_) : w.heap.size ≤ gb111)); have n3_ := iC.mk ((by rw [hg]; exact (iR hb_) : w.heap.size ≤ gb111)); clear HB; have HB := n0_; have BK111 := n1_; have GW111 := n2_; have GE111 := n3_; clear n0_ n1_ n2_ n3_; clear hb hbox hg; have hcz22_0 : w21.cell? ⟨gb111, 0, none⟩ = some (.int .u8 a0_0) := (iE BK111.out 0).trans rfl; have hcz22_1 : w21.cell? ⟨gb111, 1, none⟩ = some (.int .u32 a0_1) := (iE BK111.out 1).trans rfl; have hcz22_2 : w21.cell? ⟨gb111, 2, none⟩ = some (.int .u32 a0_2) := (iE BK111.out 2).trans rfl; have hcz22_3 : w21.cell? ⟨gb111, 3, none⟩ = some (.slice A0_3 l0_3.length c0_3) := (iE BK111.out 3).trans rfl; have hcz22_4 : w21.cell? ⟨gb111, 4, none⟩ = some (.slice A0_4 l0_4.length c0_4) := (iE BK111.out 4).trans rfl; have hcz22_5 : w21.cell? ⟨gb111, 5, none⟩ = some (.int .u32 a0_5) := (iE BK111.out 5).trans rfl; have hcz22_6 : w21.cell? ⟨gb111, 6, none⟩ = some (.slice A0_6 l0_6.length c0_6) := (iE BK111.out 6).trans rfl; have hcz22_7 : w21.cell? ⟨gb111, 7, none⟩ = some (.int .i64 a0_7) := (iE BK111.out 7).trans rfl; have hcz22_8 : w21.cell? ⟨gb111, 8, none⟩ = some (.int .i64 a0_8) := (iE BK111.out 8).trans rfl; have hcz22_9 : w21.cell? ⟨gb111, 9, none⟩ = some (.slice A0_9 l0_9.length c0_9) := (iE BK111.out 9).trans rfl; have hfz22_0 := iD BK111.out 0; have hfz22_1 := iD BK111.out 1; have hfz22_2 := iD BK111.out 2; have hfz22_3 := iD BK111.out 3; have hfz22_4 := iD BK111.out 4; have hfz22_5 := iD BK111.out 5; have hfz22_6 := iD BK111.out 6; have hfz22_7 := iD BK111.out 7; have hfz22_8 := iD BK111.out 8; have hfz22_9 := iD BK111.out 9))
            go_ret
            exact ⟨by first | rfl | (simp [iP, iO] <;> rfl) | (simp [*, iP, iO] <;> rfl), by repeat (first | (with_reducible first | exact HB.out | apply iF | apply iG | apply iI | refine iK ?_ GE111.out) | exact HB.out)⟩
        · rw [if_neg c5] at H
          have c5b0 : ((l0_3.length : Int) == 0) = false := beq_eq_false_iff_ne.mpr c5
          have c5b1 : ((l0_3.length : Int) != 0) = true := bne_iff_ne.mpr c5
          have c5b2 : ¬ (l0_3 = []) := fun h_ => c5 (by rw [h_]; rfl)
          obtain rfl := Option.some.inj H
          go_enter Tryd.func67, Tryd.ntmps67
          go_wp2_with (first | ((with_reducible refine jT (N := 1) rfl ?_); (try (refine kD (by rfl) ?_; dsimp only)); refine jK ?hg (N := 1) ?hd (cs := #[.int .u8 a0_0, .int .u32 a0_1, .int .u32 a0_2, .slice A0_3 l0_3.length c0_3, .slice A0_4 l0_4.length c0_4, .int .u32 a0_5, .slice A0_6 l0_6.length c0_6, .int .i64 a0_7, .int .i64 a0_8, .slice A0_9 l0_9.length c0_9]) (t := 30) ?hr ?_; (case hd => rfl); (case hg => rfl); (case hr => first | (go_simp; done) | (go_simp; rfl)); intro gb111 hg w23 hbox hb; have n0_ := iC.mk (iH hb_ hb); have n1_ := iC.mk (hbox); have n2_ := iC.mk ((by rw [hg]; exact (iR hb_) : w.heap.size ≤ gb111)); have n3_ := iC.mk ((by rw [hg]; exact (iR hb_) : w.heap.size ≤ gb111)); clear HB; have HB := n0_; have BK111 := n1_; have GW111 := n2_; have GE111 := n3_; clear n0_ n1_ n2_ n3_; clear hb hbox hg; have hcz24_0 : w23.cell? ⟨gb111, 0, none⟩ = some (.int .u8 a0_0) := (iE BK111.out 0).trans rfl; have hcz24_1 : w23.cell? ⟨gb111, 1, none⟩ = some (.int .u32 a0_1) := (iE BK111.out 1).trans rfl; have hcz24_2 : w23.cell? ⟨gb111, 2, none⟩ = some (.int .u32 a0_2) := (iE BK111.out 2).trans rfl; have hcz24_3 : w23.cell? ⟨gb111, 3, none⟩ = some (.slice A0_3 l0_3.length c0_3) := (iE BK111.out 3).trans rfl; have hcz24_4 : w23.cell? ⟨gb111, 4, none⟩ = some (.slice A0_4 l0_4.length c0_4) := (iE BK111.out 4).trans rfl; have hcz24_5 : w23.cell? ⟨gb111, 5, none⟩ = some (.int .u32 a0_5) := (iE BK111.out 5).trans rfl; have hcz24_6 : w23.cell? ⟨gb111, 6, none⟩ = some (.slice A0_6 l0_6.length c0_6) := (iE BK111.out 6).trans rfl; have hcz24_7 : w23.cell? ⟨gb111, 7, none⟩ = some (.int .i64 a0_7) := (iE BK111.out 7).trans rfl; have hcz24_8 : w23.cell? ⟨gb111, 8, none⟩ = some (.int .i64 a0_8) := (iE BK111.out 8).trans rfl; have hcz24_9 : w23.cell? ⟨gb111, 9, none⟩ = some (.slice A0_9 l0_9.length c0_9) := (iE BK111.out 9).trans rfl; have hfz24_0 := iD BK111.out 0; have hfz24_1 := iD BK111.out 1; have hfz24_2 := iD BK111.out 2; have hfz24_3 := iD BK111.out 3; have hfz24_4 := iD BK111.out 4; have hfz24_5 := iD BK111.out 5; have hfz24_6 := iD BK111.out 6; have hfz24_7 := iD BK111.out 7; have hfz24_8 := iD BK111.out 8; have hfz24_9 := iD BK111.out 9))
          go_ret
          exact ⟨by first | rfl | (simp [iP, iO] <;> rfl) | (simp [*, iP, iO] <;> rfl), by repeat (first | (with_reducible first | exact HB.out | apply iF | apply iG | apply iI | refine iK ?_ GE111.out) | exact HB.out)⟩
      · rw [if_neg c4] at H
        have c4b0 : (a0_2 == 0) = false := beq_eq_false_iff_ne.mpr c4
        have c4b1 : (a0_2 != 0) = true := bne_iff_ne.mpr c4
        obtain rfl := Option.some.inj H
        go_enter Tryd.func67, Tryd.ntmps67
        go_wp2_with (first | ((with_reducible refine jT (N := 1) rfl ?_); (try (refine kD (by rfl) ?_; dsimp only)); refine jK ?hg (N := 1) ?hd (cs := #[.int .u8 a0_0, .int .u32 a0_1, .int .u32 a0_2, .slice A0_3 l0_3.length c0_3, .slice A0_4 l0_4.length c0_4, .int .u32 a0_5, .slice A0_6 l0_6.length c0_6, .int .i64 a0_7, .int .i64 a0_8, .slice A0_9 l0_9.length c0_9]) (t := 30) ?hr ?_; (case hd => rfl); (case hg => rfl); (case hr => first | (go_simp; done) | (go_simp; rfl)); intro gb111 hg w25 hbox hb; have n0_ := iC.mk (iH hb_ hb); have n1_ := iC.mk (hbox); have n2_ := iC.mk ((by rw [hg]; exact (iR hb_) : w.heap.size ≤ gb111)); have n3_ := iC.mk ((by rw [hg]; exact (iR hb_) : w.heap.size ≤ gb111)); clear HB; have HB := n0_; have BK111 := n1_; have GW111 := n2_; have GE111 := n3_; clear n0_ n1_ n2_ n3_; clear hb hbox hg; have hcz26_0 : w25.cell? ⟨gb111, 0, none⟩ = some (.int .u8 a0_0) := (iE BK111.out 0).trans rfl; have hcz26_1 : w25.cell? ⟨gb111, 1, none⟩ = some (.int .u32 a0_1) := (iE BK111.out 1).trans rfl; have hcz26_2 : w25.cell? ⟨gb111, 2, none⟩ = some (.int .u32 a0_2) := (iE BK111.out 2).trans rfl; have hcz26_3 : w25.cell? ⟨gb111, 3, none⟩ = some (.slice A0_3 l0_3.length c0_3) := (iE BK111.out 3).trans rfl; have hcz26_4 : w25.cell? ⟨gb111, 4, none⟩ = some (.slice A0_4 l0_4.length c0_4) := (iE BK111.out 4).trans rfl; have hcz26_5 : w25.cell? ⟨gb111, 5, none⟩ = some (.int .u32 a0_5) := (iE BK111.out 5).trans rfl; have hcz26_6 : w25.cell? ⟨gb111, 6, none⟩ = some (.slice A0_6 l0_6.length c0_6) := (iE BK111.out 6).trans rfl; have hcz26_7 : w25.cell? ⟨gb111, 7, none⟩ = some (.int .i64 a0_7) := (iE BK111.out 7).trans rfl; have hcz26_8 : w25.cell? ⟨gb111, 8, none⟩ = some (.int .i64 a0_8) := (iE BK111.out 8).trans rfl; have hcz26_9 : w25.cell? ⟨gb111, 9, none⟩ = some (.slice A0_9 l0_9.length c0_9) := (iE BK111.out 9).trans rfl; have hfz26_0 := iD BK111.out 0; have hfz26_1 := iD BK111.out 1; have hfz26_2 := iD BK111.out 2; have hfz26_3 := iD BK111.out 3; have hfz26_4 := iD BK111.out 4; have hfz26_5 := iD BK111.out 5; have hfz26_6 := iD BK111.out 6; have hfz26_7 := iD BK111.out 7; have hfz26_8 := iD BK111.out 8; have hfz26_9 := iD BK111.out 9))
        go_ret
        exact ⟨by first | rfl | (simp [iP, iO] <;> rfl) | (simp [*, iP, iO] <;> rfl), by repeat (first | (with_reducible first | exact HB.out | apply iF | apply iG | apply iI | refine iK ?_ GE111.out) | exact HB.out)⟩
    · rw [if_neg c3] at H
      have c3b0 : (a0_1 == 0) = false := beq_eq_false_iff_ne.mpr c3
      have c3b1 : (a0_1 != 0) = true := bne_iff_ne.mpr c3
      obtain rfl := Option.some.inj H
      go_enter Tryd.func67, Tryd.ntmps67
      go_wp2_with (first | ((with_reducible refine jT (N := 1) rfl ?_); (try (refine kD (by rfl) ?_; dsimp only)); refine jK ?hg (N := 1) ?hd (cs := #[.int .u8 a0_0, .int .u32 a0_1, .int .u32 a0_2, .slice A0_3 l0_3.length c0_3, .slice A0_4 l0_4.length c0_4, .int .u32 a0_5, .slice A0_6 l0_6.length c0_6, .int .i64 a0_7, .int .i64 a0_8, .slice A0_9 l0_9.length c0_9]) (t := 30) ?hr ?_; (case hd => rfl); (case hg => rfl); (case hr => first | (go_simp; done) | (go_simp; rfl)); intro gb111 hg w27 hbox hb; have n0_ := iC.mk (iH hb_ hb); have n1_ := iC.mk (hbox); have n2_ := iC.mk ((by rw [hg]; exact (iR hb_) : w.heap.size ≤ gb111)); have n3_ := iC.mk ((by rw [hg]; exact (iR hb_) : w.heap.size ≤ gb111)); clear HB; have HB := n0_; have BK111 := n1_; have GW111 := n2_; have GE111 := n3_; clear n0_ n1_ n2_ n3_; clear hb hbox hg; have hcz28_0 : w27.cell? ⟨gb111, 0, none⟩ = some (.int .u8 a0_0) := (iE BK111.out 0).trans rfl; have hcz28_1 : w27.cell? ⟨gb111, 1, none⟩ = some (.int .u32 a0_1) := (iE BK111.out 1).trans rfl; have hcz28_2 : w27.cell? ⟨gb111, 2, none⟩ = some (.int .u32 a0_2) := (iE BK111.out 2).trans rfl; have hcz28_3 : w27.cell? ⟨gb111, 3, none⟩ = some (.slice A0_3 l0_3.length c0_3) := (iE BK111.out 3).trans rfl; have hcz28_4 : w27.cell? ⟨gb111, 4, none⟩ = some (.slice A0_4 l0_4.length c0_4) := (iE BK111.out 4).trans rfl; have hcz28_5 : w27.cell? ⟨gb111, 5, none⟩ = some (.int .u32 a0_5) := (iE BK111.out 5).trans rfl; have hcz28_6 : w27.cell? ⟨gb111, 6, none⟩ = some (.slice A0_6 l0_6.length c0_6) := (iE BK111.out 6).trans rfl; have hcz28_7 : w27.cell? ⟨gb111, 7, none⟩ = some (.int .i64 a0_7) := (iE BK111.out 7).trans rfl; have hcz28_8 : w27.cell? ⟨gb111, 8, none⟩ = some (.int .i64 a0_8) := (iE BK111.out 8).trans rfl; have hcz28_9 : w27.cell? ⟨gb111, 9, none⟩ = some (.slice A0_9 l0_9.length c0_9) := (iE BK111.out 9).trans rfl; have hfz28_0 := iD BK111.out 0; have hfz28_1 := iD BK111.out 1; have hfz28_2 := iD BK111.out 2; have hfz28_3 := iD BK111.out 3; have hfz28_4 := iD BK111.out 4; have hfz28_5 := iD BK111.out 5; have hfz28_6 := iD BK111.out 6; have hfz28_7 := iD BK111.out 7; have hfz28_8 := iD BK111.out 8; have hfz28_9 := iD BK111.out 9))
      go_ret
      exact ⟨by first | rfl | (simp [iP, iO] <;> rfl) | (simp [*, iP, iO] <;> rfl), by repeat (first | (with_reducible first | exact HB.out | apply iF | apply iG | apply iI | refine iK ?_ GE111.out) | exact HB.out)⟩
  · rw [if_neg c2] at H
    have c2b0 : (a0_0 == 0) = false := beq_eq_false_iff_ne.mpr c2
    have c2b1 : (a0_0 != 0) = true := bne_iff_ne.mpr c2
    obtain rfl := Option.some.inj H
    go_enter Tryd.func67, Tryd.ntmps67
    go_wp2_with (first | ((with_reducible refine jT (N := 1) rfl ?_); (try (refine kD (by rfl) ?_; dsimp only)); refine jK ?hg (N := 1) ?hd (cs := #[.int .u8 a0_0, .int .u32 a0_1, .int .u32 a0_2, .slice A0_3 l0_3.length c0_3, .slice A0_4 l0_4.length c0_4, .int .u32 a0_5, .slice A0_6 l0_6.length c0_6, .int .i64 a0_7, .int .i64 a0_8, .slice A0_9 l0_9.length c0_9]) (t := 30) ?hr ?_; (case hd => rfl); (case hg => rfl); (case hr => first | (go_simp; done) | (go_simp; rfl)); intro gb111 hg w29 hbox hb; have n0_ := iC.mk (iH hb_ hb); have n1_ := iC.mk (hbox); have n2_ := iC.mk ((by rw [hg]; exact (iR hb_) : w.heap.size ≤ gb111)); have n3_ := iC.mk ((by rw [hg]; exact (iR hb_) : w.heap.size ≤ gb111)); clear HB; have HB := n0_; have BK111 := n1_; have GW111 := n2_; have GE111 := n3_; clear n0_ n1_ n2_ n3_; clear hb hbox hg; have hcz30_0 : w29.cell? ⟨gb111, 0, none⟩ = some (.int .u8 a0_0) := (iE BK111.out 0).trans rfl; have hcz30_1 : w29.cell? ⟨gb111, 1, none⟩ = some (.int .u32 a0_1) := (iE BK111.out 1).trans rfl; have hcz30_2 : w29.cell? ⟨gb111, 2, none⟩ = some (.int .u32 a0_2) := (iE BK111.out 2).trans rfl; have hcz30_3 : w29.cell? ⟨gb111, 3, none⟩ = some (.slice A0_3 l0_3.length c0_3) := (iE BK111.out 3).trans rfl; have hcz30_4 : w29.cell? ⟨gb111, 4, none⟩ = some (.slice A0_4 l0_4.length c0_4) := (iE BK111.out 4).trans rfl; have hcz30_5 : w29.cell? ⟨gb111, 5, none⟩ = some (.int .u32 a0_5) := (iE BK111.out 5).trans rfl; have hcz30_6 : w29.cell? ⟨gb111, 6, none⟩ = some (.slice A0_6 l0_6.length c0_6) := (iE BK111.out 6).trans rfl; have hcz30_7 : w29.cell? ⟨gb111, 7, none⟩ = some (.int .i64 a0_7) := (iE BK111.out 7).trans rfl; have hcz30_8 : w29.cell? ⟨gb111, 8, none⟩ = some (.int .i64 a0_8) := (iE BK111.out 8).trans rfl; have hcz30_9 : w29.cell? ⟨gb111, 9, none⟩ = some (.slice A0_9 l0_9.length c0_9) := (iE BK111.out 9).trans rfl; have hfz30_0 := iD BK111.out 0; have hfz30_1 := iD BK111.out 1; have hfz30_2 := iD BK111.out 2; have hfz30_3 := iD BK111.out 3; have hfz30_4 := iD BK111.out 4; have hfz30_5 := iD BK111.out 5; have hfz30_6 := iD BK111.out 6; have hfz30_7 := iD BK111.out 7; have hfz30_8 := iD BK111.out 8; have hfz30_9 := iD BK111.out 9))
    go_ret
    exact ⟨by first | rfl | (simp [iP, iO] <;> rfl) | (simp [*, iP, iO] <;> rfl), by repeat (first | (with_reducible first | exact HB.out | apply iF | apply iG | apply iI | refine iK ?_ GE111.out) | exact HB.out)⟩
end Go.Proofs.YtgfkgppomaapiaaDoor.K
end

section
namespace Go.Proofs.YtgfkgppomaapiaaDoor.K
open RowKit YtgfkgppomaapiaaDoorW.PrintWords YtgfkgppomaapiaaDoorW.PrintLast YtgfkgppomaapiaaDoorW.PrintMore My
theorem LM {w w' : World} (h : jB w w') : Below w.heap.size w w' := by
  obtain ⟨n, rfl⟩ := h
  exact iG (Below.refl _ _) n
theorem nS {i : Int} {n : Nat} (h0 : 0 ≤ i) (h : i < (n : Int)) (hn : n ≤ 9223372036854775807) : wrap64 (i + 1) = i + 1 := by unfold wrap64; omega
theorem UT (l : List Int) (hn : l.length ≤ 9223372036854775807) (d : Nat) : ∀ (k : Nat) (last i : Int), 0 ≤ i → i ≤ l.length → (l.length : Int) - i = d → d < k → code_rises.l0 k last l (l.length : Int) i = some (mQ last (l.drop i.toNat)) := by
  induction d with
  | zero =>
    intro k last i h0 h1 hd hk
    obtain ⟨k, rfl⟩ : ∃ m, k = m + 1 := ⟨k - 1, by omega⟩
    simp only [code_rises.l0]
    rw [if_neg (by omega), List.drop_of_length_le (by omega)]
    rfl
  | succ d ih =>
    intro k last i h0 h1 hd hk
    obtain ⟨k, rfl⟩ : ∃ m, k = m + 1 := ⟨k - 1, by omega⟩
    have hlt : i < (l.length : Int) := by omega
    have hnat : i.toNat < l.length := by omega
    have hdrop : l.drop i.toNat = rd l i :: l.drop (i + 1).toNat := by
      rw [List.drop_eq_getElem_cons hnat, show (i + 1).toNat = i.toNat + 1 by omega]
      congr 1
      unfold rd
      rw [List.getD_eq_getElem?_getD, List.getElem?_eq_getElem hnat]
      rfl
    simp only [code_rises.l0]
    rw [if_pos hlt, if_pos h0, if_pos hlt, hdrop, mQ]
    by_cases c1 : rd l i ≤ last
    · rw [if_pos c1, decide_eq_false (by omega : ¬ last < rd l i)]
      rfl
    · rw [if_neg c1, decide_eq_true (by omega : last < rd l i)]
      by_cases c2 : rd l i ≥ 6
      · rw [if_pos c2, decide_eq_false (by omega : ¬ rd l i < 6)]
        rfl
      · rw [if_neg c2, decide_eq_true (by omega : rd l i < 6), nS h0 hlt hn]
        exact ih k _ (i + 1) (by omega) (by omega) (by omega) (by omega)
theorem qR (A : Option Addr) (c : Nat) (l : List Int) (w : World) (hr : Kd.C (Kd.int .i64) w A l.length l) (hc : l.length ≤ c) :
    Calls Tryd.prog 61 #[.slice A l.length c] w fun e w' => e = .returned (.bool (mQ (-1) l)) ∧ Below w.heap.size w w' :=
  (code_rises.calls (l.length + 1) A c l _ w hr hc (by unfold code_rises.f; rw [UT l (kQ hr) l.length (l.length + 1) (-1) 0 (by omega) (by omega) (by omega) (by omega)]; rfl)).mono fun _ _ ⟨he, hd⟩ => ⟨he, LM hd⟩
def gapB (p : Option Int) (a : Int) : Bool := match p with | none => true | some q => decide (q < a)
theorem uD (p : Option Int) (e : jG) (l : List jG) : nY p (e :: l) = (mV e.f1 && gapB p e.f0 && nY (some e.f0) l) := by
  cases p <;> rfl
def rQ (l : List jG) (i : Int) : Option Int := if 0 < i then some (iQ l (i - 1)).f0 else none
theorem OZ (l : List jG) (hn : l.length ≤ 9223372036854775807) (d : Nat) : ∀ (k : Nat) (i : Int), 0 ≤ i → i ≤ l.length → (l.length : Int) - i = d → d < k →
    code_history.l0 k l l (l.length : Int) i = some (nY (rQ l i) (l.drop i.toNat) && decide ((l.length : Int) ≤ 5000)) := by
  induction d with
  | zero =>
    intro k i h0 h1 hd hk
    obtain ⟨k, rfl⟩ : ∃ m, k = m + 1 := ⟨k - 1, by omega⟩
    simp only [code_history.l0]
    rw [if_neg (by omega), List.drop_of_length_le (by omega)]
    rfl
  | succ d ih =>
    intro k i h0 h1 hd hk
    obtain ⟨k, rfl⟩ : ∃ m, k = m + 1 := ⟨k - 1, by omega⟩
    have hlt : i < (l.length : Int) := by omega
    have hnat : i.toNat < l.length := by omega
    have hdrop : l.drop i.toNat = iQ l i :: l.drop (i + 1).toNat := by
      rw [List.drop_eq_getElem_cons hnat, show (i + 1).toNat = i.toNat + 1 by omega]
      congr 1
      unfold iQ
      rw [List.getD_eq_getElem?_getD, List.getElem?_eq_getElem hnat]
      rfl
    have hnext : rQ l (i + 1) = some (iQ l i).f0 := by
      unfold rQ
      rw [if_pos (by omega), show i + 1 - 1 = i by omega]
    have hih := ih k (i + 1) (by omega) (by omega) (by omega) (by omega)
    rw [hnext] at hih
    simp only [code_history.l0]
    rw [if_pos hlt, if_pos h0, if_pos hlt, hdrop, uD]
    simp only [code_batch.f, Option.bind_some]
    rw [nS h0 hlt hn, hih]
    cases mV (iQ l i).f1 with
    | false => rfl
    | true =>
      rw [if_pos rfl]
      by_cases hi : i > 0
      · have hw : wrap64 (i - 1) = i - 1 := by unfold wrap64; omega
        rw [if_pos hi, hw, if_pos (by omega), if_pos (by omega)]
        unfold rQ gapB
        rw [if_pos hi]
        simp only [Bool.true_and]
        by_cases c1 : (iQ l i).f0 ≤ (iQ l (i - 1)).f0
        · rw [if_pos c1, decide_eq_false (show ¬ (iQ l (i - 1)).f0 < (iQ l i).f0 by omega)]
          rfl
        · rw [if_neg c1, decide_eq_true (show (iQ l (i - 1)).f0 < (iQ l i).f0 by omega)]
          rfl
      · rw [if_neg hi]
        unfold rQ gapB
        rw [if_neg hi]
        rfl
theorem nK (A : Option Addr) (c : Nat) (l : List jG) (w : World) (hr : Kd.C k86 w A l.length l) (hc : l.length ≤ c) :
    Calls Tryd.prog 66 #[.slice A l.length c] w fun e w' => e = .returned (.bool (nZ l && decide ((l.length : Int) ≤ 5000))) ∧ Below w.heap.size w w' :=
  code_history.calls (l.length + 1) A c l _ w hr hc (by unfold code_history.f; rw [OZ l (kQ hr) l.length (l.length + 1) 0 (by omega) (by omega) (by omega) (by omega)]; rfl)
def lJ (a0 a1 a2 : Int) (l3 : List Int) (l4 : List jQ) (a5 : Int) (l6 : List kC) (a7 a8 : Int) (l9 : List jG) : Bool :=
  a0 == 0 && a1 == 0 && a2 == 0 && l3.isEmpty && l4.isEmpty && a5 == 0 && l6.isEmpty && a7 == 0 && a8 == 0 && l9.isEmpty
theorem NL {α : Type} (l : List α) : ((l.length : Int) = 0) = (l.isEmpty = true) := by
  cases l with
  | nil => simp
  | cons x l => simp; omega
theorem UK (a0 a1 a2 : Int) (l3 : List Int) (l4 : List jQ) (a5 : Int) (l6 : List kC) (a7 a8 : Int) (l9 : List jG) : code_plain.f a0 a1 a2 l3 l4 a5 l6 a7 a8 l9 = some (lJ a0 a1 a2 l3 l4 a5 l6 a7 a8 l9) := by
  unfold code_plain.f lJ
  have e9 : ((l9.length : Int) == 0) = l9.isEmpty := by
    rw [Bool.eq_iff_iff, beq_iff_eq, NL]
  rw [e9]
  simp only [NL]
  by_cases h0 : a0 = 0
  · by_cases h1 : a1 = 0
    · by_cases h2 : a2 = 0
      · cases h3 : l3.isEmpty
        · simp [h0, h1, h2]
        · cases h4 : l4.isEmpty
          · simp [h0, h1, h2]
          · by_cases h5 : a5 = 0
            · cases h6 : l6.isEmpty
              · simp [h0, h1, h2, h5]
              · by_cases h7 : a7 = 0
                · by_cases h8 : a8 = 0
                  · simp [h0, h1, h2, h5, h7, h8]
                  · simp [h0, h1, h2, h5, h7, h8]
                · simp [h0, h1, h2, h5, h7]
            · simp [h0, h1, h2, h5]
      · simp [h0, h1, h2]
    · simp [h0, h1]
  · simp [h0]
theorem UG (s : kC) : mG s = (decide (0 ≤ s.f0) && decide (s.f0 ≤ 9999) && decide (0 ≤ s.f1) && decide (s.f1 < 6)) := rfl
set_option maxHeartbeats 1000000 in
theorem TK (s : kC) (w : World) :
    Calls Tryd.prog 65 #[.agg #[.int .i64 s.f0, .int .i64 s.f1]] w fun e w' => e = .returned (.bool (mG s)) ∧ Below w.heap.size w w' := by
  rw [UG]
  by_cases h0 : 0 ≤ s.f0
  · by_cases h1 : s.f0 ≤ 9999
    · by_cases h2 : 0 ≤ s.f1
      · by_cases h3 : s.f1 < 6
        · rw [decide_eq_true h0, decide_eq_true h1, decide_eq_true h2, decide_eq_true h3]
          go_enter Tryd.func65, Tryd.ntmps65
          go_wp2
          go_ret
          exact ⟨rfl, iF (Below.refl _ _) _⟩
        · rw [decide_eq_true h0, decide_eq_true h1, decide_eq_true h2, decide_eq_false h3]
          go_enter Tryd.func65, Tryd.ntmps65
          go_wp2
          go_ret
          exact ⟨rfl, iF (Below.refl _ _) _⟩
      · rw [decide_eq_true h0, decide_eq_true h1, decide_eq_false h2, Bool.and_false, Bool.false_and]
        go_enter Tryd.func65, Tryd.ntmps65
        go_wp2
        go_ret
        exact ⟨rfl, iF (Below.refl _ _) _⟩
    · rw [decide_eq_true h0, decide_eq_false h1, Bool.and_false, Bool.false_and, Bool.false_and]
      go_enter Tryd.func65, Tryd.ntmps65
      go_wp2
      go_ret
      exact ⟨rfl, iF (Below.refl _ _) _⟩
  · rw [decide_eq_false h0, Bool.false_and, Bool.false_and, Bool.false_and]
    go_enter Tryd.func65, Tryd.ntmps65
    go_wp2
    go_ret
    exact ⟨rfl, iF (Below.refl _ _) _⟩
set_option maxHeartbeats 400000 in
theorem MP (s : kC) (w : World) :
    Calls Tryd.prog 64 #[.agg #[.int .i64 s.f0, .int .i64 s.f1]] w fun e w' => e = .returned (.bool (!mG s)) ∧ Below w.heap.size w w' := by
  have hcall := TK s (w.alloc (.cells #[.int .i64 s.f0, .int .i64 s.f1] 98))
  generalize mG s = b at hcall
  go_enter Tryd.func64, Tryd.ntmps64
  go_wp2_with (go_at_call 65; refine hcall.mono ?_; rintro e w' ⟨rfl, hb⟩)
  go_ret
  exact ⟨rfl, iH (iF (Below.refl _ _) _) hb⟩
def xN : kC := z98
set_option maxHeartbeats 1000000 in
theorem JX (A : Option Addr) (c : Nat) (l : List kC) (w : World) (hr : Kd.C k98 w A l.length l) :
    Calls Tryd.prog 95 #[.slice A l.length c, .func (.func 64) #[] #[]] w (MM (l.any fun f => !mG f) w) := by
  have hm := kQ hr
  have HR := iC.mk hr
  clear hr
  go_enter Tryd.func95, Tryd.ntmps95
  go_wp2
  go_loopg [5, 8] l.length (fun gg _ s8 wr => ∃ k : Nat, k ≤ l.length ∧ l.length - k ≤ gg ∧ s8 = .int .i64 k ∧ iC (Below w.heap.size w wr) ∧ iC ((l.take k).any (fun f => !mG f) = false))
  case atStart => exact ⟨0, Nat.zero_le _, by omega, rfl, ⟨Below.refl _ _⟩, ⟨rfl⟩⟩
  case round =>
    obtain ⟨k, hk, hg, rfl, HW, HA⟩ := hrel
    by_cases hlt : k < l.length
    · obtain ⟨ad, rfl, hx0, hx1⟩ := lT (Kd.C_below HR.out HW.out) (k : Int) (by omega) (by omega)
      have hsn := any_take_succ (fun f => !mG f) xN l k hlt
      have hgd : jO l (k : Int) = l.getD k xN := by unfold jO xN; rw [Int.toNat_natCast]
      rw [hgd] at hx0 hx1
      rw [Int.toNat_natCast] at hx0 hx1
      clear hgd
      obtain ⟨f, hf⟩ : ∃ v, v = l.getD k xN := ⟨_, rfl⟩
      rw [← hf] at hx0 hx1 hsn
      have hcall := MP f wr
      cases hq : (!mG f) with
      | true =>
        have HH := iC.mk (MX (fun f => !mG f) xN l k hlt (by rw [← hf]; exact hq))
        rw [hq] at hcall
        clear hf hsn hq
        go_wp2_with (go_at_call 64; refine hcall.mono ?_; rintro e w' ⟨rfl, hb⟩)
        go_ret
        exact ⟨k, rfl, by rw [HH.out]; simp, iH HW.out hb⟩
      | false =>
        have HN := iC.mk (show (l.take (k + 1)).any (fun f => !mG f) = false by rw [hsn, HA.out, hq]; rfl)
        rw [hq] at hcall
        clear hf hsn hq
        go_wp2_with (go_at_call 64; refine hcall.mono ?_; rintro e w' ⟨rfl, hb⟩)
        go_roundg (l.length - (k + 1))
        case measure => omega
        case rel => exact ⟨k + 1, by omega, by omega, by go_num, ⟨iH HW.out hb⟩, HN⟩
    · have : k = l.length := by omega
      subst this
      go_wp2
      go_ret
      exact ⟨-1, rfl, by rw [IG _ _ HA.out]; rfl, HW.out⟩
set_option maxHeartbeats 400000 in
theorem yC (A : Option Addr) (c : Nat) (l : List kC) (w : World) (hr : Kd.C k98 w A l.length l) :
    Calls Tryd.prog 63 #[.slice A l.length c, .func (.func 64) #[] #[]] w fun e w' => e = .returned (.bool (l.any fun f => !mG f)) ∧ Below w.heap.size w w' := by
  have hcall := JX A c l w hr
  clear hr
  generalize (l.any fun f => !mG f) = b at hcall
  go_enter Tryd.func63, Tryd.ntmps63
  go_wp2_with (go_at_call 95; refine hcall.mono ?_; rintro e w' ⟨r, rfl, hr, hb⟩; have HR := iC.mk hr; clear hr)
  go_ret
  exact ⟨by rw [← HR.out]; rfl, hb⟩
end Go.Proofs.YtgfkgppomaapiaaDoor.K
end

section
namespace Go.Proofs.YtgfkgppomaapiaaDoor.K
open RowKit YtgfkgppomaapiaaDoorW.PrintWords YtgfkgppomaapiaaDoorW.PrintLast YtgfkgppomaapiaaDoorW.PrintMore My
theorem ten {w : World} {b t : Nat} {v0 v1 v2 v3 v4 v5 v6 v7 v8 v9 : Value} (h : w.heap[b]? = some (.cells #[v0, v1, v2, v3, v4, v5, v6, v7, v8, v9] t (0, 0))) :
    w.cell? ⟨b, 0, none⟩ = some v0 ∧ w.cell? ⟨b, 1, none⟩ = some v1 ∧ w.cell? ⟨b, 2, none⟩ = some v2 ∧ w.cell? ⟨b, 3, none⟩ = some v3 ∧ w.cell? ⟨b, 4, none⟩ = some v4 ∧ w.cell? ⟨b, 5, none⟩ = some v5 ∧ w.cell? ⟨b, 6, none⟩ = some v6 ∧ w.cell? ⟨b, 7, none⟩ = some v7 ∧ w.cell? ⟨b, 8, none⟩ = some v8 ∧ w.cell? ⟨b, 9, none⟩ = some v9 ∧
    w.frozen? ⟨b, 0, none⟩ = false ∧ w.frozen? ⟨b, 1, none⟩ = false ∧ w.frozen? ⟨b, 2, none⟩ = false ∧ w.frozen? ⟨b, 3, none⟩ = false ∧ w.frozen? ⟨b, 4, none⟩ = false ∧ w.frozen? ⟨b, 5, none⟩ = false ∧ w.frozen? ⟨b, 6, none⟩ = false ∧ w.frozen? ⟨b, 7, none⟩ = false ∧ w.frozen? ⟨b, 8, none⟩ = false ∧ w.frozen? ⟨b, 9, none⟩ = false :=
  ⟨(iE h 0).trans rfl, (iE h 1).trans rfl, (iE h 2).trans rfl, (iE h 3).trans rfl, (iE h 4).trans rfl, (iE h 5).trans rfl, (iE h 6).trans rfl, (iE h 7).trans rfl, (iE h 8).trans rfl, (iE h 9).trans rfl,
   iD h 0, iD h 1, iD h 2, iD h 3, iD h 4, iD h 5, iD h 6, iD h 7, iD h 8, iD h 9⟩
theorem nP (a0 a1 a2 : Int) (A3 : Option Addr) (c3 : Nat) (l3 : List Int) (A4 : Option Addr) (c4 : Nat) (l4 : List jQ) (a5 : Int) (A6 : Option Addr) (c6 : Nat) (l6 : List kC) (a7 a8 : Int) (A9 : Option Addr) (c9 : Nat) (l9 : List jG) (w : World)
    (h3 : Kd.C (Kd.int .i64) w A3 l3.length l3) (d3 : l3.length ≤ c3) (h4 : Kd.C k139 w A4 l4.length l4) (d4 : l4.length ≤ c4) (h6 : Kd.C k98 w A6 l6.length l6) (d6 : l6.length ≤ c6) (h9 : Kd.C k86 w A9 l9.length l9) (d9 : l9.length ≤ c9) :
    Calls Tryd.prog 67 #[.agg #[.int .u8 a0, .int .u32 a1, .int .u32 a2, .slice A3 l3.length c3, .slice A4 l4.length c4, .int .u32 a5, .slice A6 l6.length c6, .int .i64 a7, .int .i64 a8, .slice A9 l9.length c9]] w fun e w' => e = .returned (.bool (lJ a0 a1 a2 l3 l4 a5 l6 a7 a8 l9)) ∧ Below w.heap.size w w' :=
  code_plain.calls a0 a1 a2 A3 c3 l3 A4 c4 l4 a5 A6 c6 l6 a7 a8 A9 c9 l9 _ w h3 d3 h4 d4 h6 d6 h9 d9 (UK _ _ _ _ _ _ _ _ _ _)
def code_Sound.f (a0_0 : Int) (a0_1 : Int) (a0_2 : Int) (l0_3 : List Int) (l0_4 : List jQ) (a0_5 : Int) (l0_6 : List kC) (a0_7 : Int) (a0_8 : Int) (l0_9 : List jG) : Option Bool :=
  some (jJ ⟨a0_0, a0_1, a0_2, l0_3, l0_4, ⟨a0_5, l0_6⟩, a0_7, a0_8, l0_9⟩)
theorem QB (a1 a2 : Int) (l3 : List Int) (l4 : List jQ) (a5 : Int) (l6 : List kC) (a7 a8 : Int) (l9 : List jG) : jJ ⟨1, a1, a2, l3, l4, ⟨a5, l6⟩, a7, a8, l9⟩ = (mQ (-1) l3 && mV l4 && lJ 0 0 a2 [] [] a5 l6 a7 a8 l9) := by
  simp [jJ, lJ, Bool.and_assoc]
theorem QN (a1 a2 : Int) (l3 : List Int) (l4 : List jQ) (a5 : Int) (l6 : List kC) (a7 a8 : Int) (l9 : List jG) : jJ ⟨2, a1, a2, l3, l4, ⟨a5, l6⟩, a7, a8, l9⟩ = (mQ (-1) l3 && lJ 0 0 0 [] l4 a5 l6 a7 a8 l9) := by
  simp [jJ, lJ, Bool.and_assoc]
theorem I5 (a0 a1 a2 : Int) (l3 : List Int) (l4 : List jQ) (a5 : Int) (l6 : List kC) (a7 a8 : Int) (l9 : List jG) (h : a0 = 3 ∨ a0 = 4 ∨ a0 = 5) : jJ ⟨a0, a1, a2, l3, l4, ⟨a5, l6⟩, a7, a8, l9⟩ = lJ 0 0 a2 l3 l4 a5 l6 a7 a8 l9 := by
  rcases h with rfl | rfl | rfl <;> simp [jJ, lJ, Bool.and_assoc]
theorem PL (a1 a2 : Int) (l3 : List Int) (l4 : List jQ) (a5 : Int) (l6 : List kC) (a7 a8 : Int) (l9 : List jG) : jJ ⟨6, a1, a2, l3, l4, ⟨a5, l6⟩, a7, a8, l9⟩ = (decide (a1 = 0) && decide ((l6.length : Int) ≤ 40) && !(l6.any fun s => !mG s) && lJ 0 0 a2 l3 l4 0 [] a7 a8 l9) := by
  have e1 : l6.all mG = !(l6.any fun s => !mG s) := by rw [List.any_eq_not_all_not, Bool.not_not]; congr 1; funext v; simp
  have e2 : decide (l6.length ≤ 40) = decide ((l6.length : Int) ≤ 40) := by rw [decide_eq_decide]; omega
  have e3 : (a1 == 0) = decide (a1 = 0) := by rw [Bool.eq_iff_iff]; simp
  rw [← e1, ← e2, ← e3]
  simp [jJ, lJ, Bool.and_assoc]
theorem Q4 (a1 a2 : Int) (l3 : List Int) (l4 : List jQ) (a5 : Int) (l6 : List kC) (a7 a8 : Int) (l9 : List jG) : jJ ⟨7, a1, a2, l3, l4, ⟨a5, l6⟩, a7, a8, l9⟩ = ((nZ l9 && decide ((l9.length : Int) ≤ 5000)) && decide (0 ≤ a7) && decide (a7 ≤ 10000) && decide (0 ≤ a8) && decide (a8 ≤ 10000) && lJ 0 0 a2 l3 l4 a5 l6 0 0 []) := by
  have e2 : decide (l9.length ≤ 5000) = decide ((l9.length : Int) ≤ 5000) := by rw [decide_eq_decide]; omega
  rw [← e2]
  simp [jJ, lJ, Bool.and_assoc]
theorem PH (a0 a1 a2 : Int) (l3 : List Int) (l4 : List jQ) (a5 : Int) (l6 : List kC) (a7 a8 : Int) (l9 : List jG) (h : a0 < 1 ∨ 7 < a0) : jJ ⟨a0, a1, a2, l3, l4, ⟨a5, l6⟩, a7, a8, l9⟩ = false := by
  unfold jJ
  simp only
  rw [if_neg (by omega), if_neg (by omega), if_neg (by simp; omega), if_neg (by omega), if_neg (by omega)]
section
variable (a0 a1 a2 : Int) (A3 : Option Addr) (c3 : Nat) (l3 : List Int) (A4 : Option Addr) (c4 : Nat) (l4 : List jQ) (a5 : Int) (A6 : Option Addr) (c6 : Nat) (l6 : List kC) (a7 a8 : Int) (A9 : Option Addr) (c9 : Nat) (l9 : List jG) (w : World)
  (h3 : Kd.C (Kd.int .i64) w A3 l3.length l3) (d3 : l3.length ≤ c3) (h4 : Kd.C k139 w A4 l4.length l4) (d4 : l4.length ≤ c4) (h6 : Kd.C k98 w A6 l6.length l6) (d6 : l6.length ≤ c6) (h9 : Kd.C k86 w A9 l9.length l9) (d9 : l9.length ≤ c9)
include h3 d3 h4 d4 h6 d6 h9 d9
set_option maxHeartbeats 4000000 in
set_option maxRecDepth 20000 in
theorem P5 : Calls Tryd.prog 19 #[.agg #[.int .u8 1, .int .u32 a1, .int .u32 a2, .slice A3 l3.length c3, .slice A4 l4.length c4, .int .u32 a5, .slice A6 l6.length c6, .int .i64 a7, .int .i64 a8, .slice A9 l9.length c9]] w fun e w' => e = .returned (.bool (jJ ⟨1, a1, a2, l3, l4, ⟨a5, l6⟩, a7, a8, l9⟩)) ∧ Below w.heap.size w w' := by
  have H3 := iC.mk h3; have H4 := iC.mk h4; have H6 := iC.mk h6; have H9 := iC.mk h9
  clear h3 h4 h6 h9
  rw [QB]
  cases hr : mQ (-1) l3 with
  | false =>
    have HQ := iC.mk hr
    clear hr
    rw [Bool.false_and, Bool.false_and]
    go_enter Tryd.func19, Tryd.ntmps19
    go_wp2_with (go_at_call 61; refine (qR _ _ l3 _ (Kd.C_below H3.out bel_) d3).mono ?_; rintro e w1 ⟨rfl, hb1⟩; rw [HQ.out]; have hbk := ten (iJ hb1 (iM rfl)); obtain ⟨z0, z1, z2, z3, z4, z5, z6, z7, z8, z9, y0, y1, y2, y3, y4, y5, y6, y7, y8, y9⟩ := hbk)
    go_ret
    exact ⟨rfl, bel_⟩
  | true =>
    have HQ := iC.mk hr
    clear hr
    rw [Bool.true_and]
    cases hb : mV l4 with
    | false =>
      have HQ2 := iC.mk hb
      clear hb
      rw [Bool.false_and]
      go_enter Tryd.func19, Tryd.ntmps19
      go_wp2_with (first | (go_at_call 61; refine (qR _ _ l3 _ (Kd.C_below H3.out bel_) d3).mono ?_; rintro e w1 ⟨rfl, hb1⟩; rw [HQ.out]; have hbk := ten (iJ hb1 (iM rfl)); obtain ⟨z0, z1, z2, z3, z4, z5, z6, z7, z8, z9, y0, y1, y2, y3, y4, y5, y6, y7, y8, y9⟩ := hbk) | (go_at_call 62; refine (code_batch.calls _ _ l4 _ _ (Kd.C_below H4.out bel_) d4 rfl).mono ?_; rintro e w2 ⟨rfl, hb2⟩; rw [HQ2.out]; have hbk1 := iJ hb2 (iJ hb1 (iM rfl)); clear z0 z1 z2 z3 z4 z5 z6 z7 z8 z9 y0 y1 y2 y3 y4 y5 y6 y7 y8 y9; obtain ⟨z0, z1, z2, z3, z4, z5, z6, z7, z8, z9, y0, y1, y2, y3, y4, y5, y6, y7, y8, y9⟩ := ten hbk1; clear hbk1))
      go_ret
      exact ⟨rfl, bel_⟩
    | true =>
      have HQ2 := iC.mk hb
      clear hb
      rw [Bool.true_and]
      generalize hp : lJ 0 0 a2 [] [] a5 l6 a7 a8 l9 = P
      have HP := iC.mk hp
      clear hp
      go_enter Tryd.func19, Tryd.ntmps19
      go_wp2_with (first | (go_at_call 61; refine (qR _ _ l3 _ (Kd.C_below H3.out bel_) d3).mono ?_; rintro e w1 ⟨rfl, hb1⟩; rw [HQ.out]; have hbk := ten (iJ hb1 (iM rfl)); obtain ⟨z0, z1, z2, z3, z4, z5, z6, z7, z8, z9, y0, y1, y2, y3, y4, y5, y6, y7, y8, y9⟩ := hbk) | (go_at_call 62; refine (code_batch.calls _ _ l4 _ _ (Kd.C_below H4.out bel_) d4 rfl).mono ?_; rintro e w2 ⟨rfl, hb2⟩; rw [HQ2.out]; have hbk1 := iJ hb2 (iJ hb1 (iM rfl)); clear z0 z1 z2 z3 z4 z5 z6 z7 z8 z9 y0 y1 y2 y3 y4 y5 y6 y7 y8 y9; obtain ⟨z0, z1, z2, z3, z4, z5, z6, z7, z8, z9, y0, y1, y2, y3, y4, y5, y6, y7, y8, y9⟩ := ten hbk1; clear hbk1) | (go_at_call 67; refine (nP 0 0 a2 none 0 ([] : List Int) none 0 ([] : List jQ) a5 A6 c6 l6 a7 a8 A9 c9 l9 _ (Kd.C_nil _ _) (Nat.le_refl _) (Kd.C_nil _ _) (Nat.le_refl _) (Kd.C_below H6.out bel_) d6 (Kd.C_below H9.out bel_) d9).mono ?_; rintro e w9 ⟨rfl, hb9⟩))
      go_ret
      exact ⟨by rw [← HP.out]; rfl, bel_⟩
set_option maxHeartbeats 4000000 in
set_option maxRecDepth 20000 in
theorem OO : Calls Tryd.prog 19 #[.agg #[.int .u8 2, .int .u32 a1, .int .u32 a2, .slice A3 l3.length c3, .slice A4 l4.length c4, .int .u32 a5, .slice A6 l6.length c6, .int .i64 a7, .int .i64 a8, .slice A9 l9.length c9]] w fun e w' => e = .returned (.bool (jJ ⟨2, a1, a2, l3, l4, ⟨a5, l6⟩, a7, a8, l9⟩)) ∧ Below w.heap.size w w' := by
  have H3 := iC.mk h3; have H4 := iC.mk h4; have H6 := iC.mk h6; have H9 := iC.mk h9
  clear h3 h4 h6 h9
  rw [QN]
  cases hr : mQ (-1) l3 with
  | false =>
    have HQ := iC.mk hr
    clear hr
    rw [Bool.false_and]
    go_enter Tryd.func19, Tryd.ntmps19
    go_wp2_with (go_at_call 61; refine (qR _ _ l3 _ (Kd.C_below H3.out bel_) d3).mono ?_; rintro e w1 ⟨rfl, hb1⟩; rw [HQ.out]; have hbk := ten (iJ hb1 (iM rfl)); obtain ⟨z0, z1, z2, z3, z4, z5, z6, z7, z8, z9, y0, y1, y2, y3, y4, y5, y6, y7, y8, y9⟩ := hbk)
    go_ret
    exact ⟨rfl, bel_⟩
  | true =>
    have HQ := iC.mk hr
    clear hr
    rw [Bool.true_and]
    generalize hp : lJ 0 0 0 [] l4 a5 l6 a7 a8 l9 = P
    have HP := iC.mk hp
    clear hp
    go_enter Tryd.func19, Tryd.ntmps19
    go_wp2_with (first | (go_at_call 61; refine (qR _ _ l3 _ (Kd.C_below H3.out bel_) d3).mono ?_; rintro e w1 ⟨rfl, hb1⟩; rw [HQ.out]; have hbk := ten (iJ hb1 (iM rfl)); obtain ⟨z0, z1, z2, z3, z4, z5, z6, z7, z8, z9, y0, y1, y2, y3, y4, y5, y6, y7, y8, y9⟩ := hbk) | (go_at_call 67; refine (nP 0 0 0 none 0 ([] : List Int) A4 c4 l4 a5 A6 c6 l6 a7 a8 A9 c9 l9 _ (Kd.C_nil _ _) (Nat.le_refl _) (Kd.C_below H4.out bel_) d4 (Kd.C_below H6.out bel_) d6 (Kd.C_below H9.out bel_) d9).mono ?_; rintro e w9 ⟨rfl, hb9⟩))
    go_ret
    exact ⟨by rw [← HP.out]; rfl, bel_⟩
set_option maxHeartbeats 4000000 in
set_option maxRecDepth 20000 in
theorem JA (ha : a0 = 3 ∨ a0 = 4 ∨ a0 = 5) : Calls Tryd.prog 19 #[.agg #[.int .u8 a0, .int .u32 a1, .int .u32 a2, .slice A3 l3.length c3, .slice A4 l4.length c4, .int .u32 a5, .slice A6 l6.length c6, .int .i64 a7, .int .i64 a8, .slice A9 l9.length c9]] w fun e w' => e = .returned (.bool (jJ ⟨a0, a1, a2, l3, l4, ⟨a5, l6⟩, a7, a8, l9⟩)) ∧ Below w.heap.size w w' := by
  have H3 := iC.mk h3; have H4 := iC.mk h4; have H6 := iC.mk h6; have H9 := iC.mk h9
  clear h3 h4 h6 h9
  rcases ha with rfl | rfl | rfl
  ·
    rw [I5 _ _ _ _ _ _ _ _ _ _ (by omega)]
    generalize hp : lJ 0 0 a2 l3 l4 a5 l6 a7 a8 l9 = P
    have HP := iC.mk hp
    clear hp
    go_enter Tryd.func19, Tryd.ntmps19
    go_wp2_with (go_at_call 67; refine (nP 0 0 a2 A3 c3 l3 A4 c4 l4 a5 A6 c6 l6 a7 a8 A9 c9 l9 _ (Kd.C_below H3.out bel_) d3 (Kd.C_below H4.out bel_) d4 (Kd.C_below H6.out bel_) d6 (Kd.C_below H9.out bel_) d9).mono ?_; rintro e w9 ⟨rfl, hb9⟩)
    go_ret
    exact ⟨by rw [← HP.out]; rfl, bel_⟩
  ·
    rw [I5 _ _ _ _ _ _ _ _ _ _ (by omega)]
    generalize hp : lJ 0 0 a2 l3 l4 a5 l6 a7 a8 l9 = P
    have HP := iC.mk hp
    clear hp
    go_enter Tryd.func19, Tryd.ntmps19
    go_wp2_with (go_at_call 67; refine (nP 0 0 a2 A3 c3 l3 A4 c4 l4 a5 A6 c6 l6 a7 a8 A9 c9 l9 _ (Kd.C_below H3.out bel_) d3 (Kd.C_below H4.out bel_) d4 (Kd.C_below H6.out bel_) d6 (Kd.C_below H9.out bel_) d9).mono ?_; rintro e w9 ⟨rfl, hb9⟩)
    go_ret
    exact ⟨by rw [← HP.out]; rfl, bel_⟩
  ·
    rw [I5 _ _ _ _ _ _ _ _ _ _ (by omega)]
    generalize hp : lJ 0 0 a2 l3 l4 a5 l6 a7 a8 l9 = P
    have HP := iC.mk hp
    clear hp
    go_enter Tryd.func19, Tryd.ntmps19
    go_wp2_with (go_at_call 67; refine (nP 0 0 a2 A3 c3 l3 A4 c4 l4 a5 A6 c6 l6 a7 a8 A9 c9 l9 _ (Kd.C_below H3.out bel_) d3 (Kd.C_below H4.out bel_) d4 (Kd.C_below H6.out bel_) d6 (Kd.C_below H9.out bel_) d9).mono ?_; rintro e w9 ⟨rfl, hb9⟩)
    go_ret
    exact ⟨by rw [← HP.out]; rfl, bel_⟩
set_option maxHeartbeats 4000000 in
set_option maxRecDepth 20000 in
theorem OC : Calls Tryd.prog 19 #[.agg #[.int .u8 6, .int .u32 a1, .int .u32 a2, .slice A3 l3.length c3, .slice A4 l4.length c4, .int .u32 a5, .slice A6 l6.length c6, .int .i64 a7, .int .i64 a8, .slice A9 l9.length c9]] w fun e w' => e = .returned (.bool (jJ ⟨6, a1, a2, l3, l4, ⟨a5, l6⟩, a7, a8, l9⟩)) ∧ Below w.heap.size w w' := by
  have _ := d6
  have H3 := iC.mk h3; have H4 := iC.mk h4; have H6 := iC.mk h6; have H9 := iC.mk h9
  clear h3 h4 h6 h9
  rw [PL]
  by_cases q1 : a1 = 0
  · subst q1
    by_cases q2 : (l6.length : Int) ≤ 40
    · rw [decide_eq_true (rfl : (0 : Int) = 0), decide_eq_true q2]
      cases hr : (l6.any fun s => !mG s) with
      | true =>
        have HQ := iC.mk hr
        clear hr
        go_enter Tryd.func19, Tryd.ntmps19
        go_wp2_with (first | (go_at_call 63; refine (yC _ _ l6 _ (Kd.C_below H6.out bel_)).mono ?_; rintro e w1 ⟨rfl, hb1⟩; rw [HQ.out]; have hbk := ten (iJ hb1 (iM rfl)); obtain ⟨z0, z1, z2, z3, z4, z5, z6, z7, z8, z9, y0, y1, y2, y3, y4, y5, y6, y7, y8, y9⟩ := hbk) | (go_at_call 67; refine (nP 0 0 a2 A3 c3 l3 A4 c4 l4 0 none 0 ([] : List kC) a7 a8 A9 c9 l9 _ (Kd.C_below H3.out bel_) d3 (Kd.C_below H4.out bel_) d4 (Kd.C_nil _ _) (Nat.le_refl _) (Kd.C_below H9.out bel_) d9).mono ?_; rintro e w9 ⟨rfl, hb9⟩))
        go_ret
        exact ⟨rfl, bel_⟩
      | false =>
        have HQ := iC.mk hr
        clear hr
        rw [show (true && true && !false && lJ 0 0 a2 l3 l4 0 [] a7 a8 l9) = lJ 0 0 a2 l3 l4 0 [] a7 a8 l9 by simp]
        generalize hp : lJ 0 0 a2 l3 l4 0 [] a7 a8 l9 = P
        have HP := iC.mk hp
        clear hp
        go_enter Tryd.func19, Tryd.ntmps19
        go_wp2_with (first | (go_at_call 63; refine (yC _ _ l6 _ (Kd.C_below H6.out bel_)).mono ?_; rintro e w1 ⟨rfl, hb1⟩; rw [HQ.out]; have hbk := ten (iJ hb1 (iM rfl)); obtain ⟨z0, z1, z2, z3, z4, z5, z6, z7, z8, z9, y0, y1, y2, y3, y4, y5, y6, y7, y8, y9⟩ := hbk) | (go_at_call 67; refine (nP 0 0 a2 A3 c3 l3 A4 c4 l4 0 none 0 ([] : List kC) a7 a8 A9 c9 l9 _ (Kd.C_below H3.out bel_) d3 (Kd.C_below H4.out bel_) d4 (Kd.C_nil _ _) (Nat.le_refl _) (Kd.C_below H9.out bel_) d9).mono ?_; rintro e w9 ⟨rfl, hb9⟩))
        go_ret
        exact ⟨by rw [← HP.out]; rfl, bel_⟩
    · rw [decide_eq_true (rfl : (0 : Int) = 0), decide_eq_false q2]
      go_enter Tryd.func19, Tryd.ntmps19
      go_wp2_with fail
      go_ret
      exact ⟨rfl, bel_⟩
  · rw [decide_eq_false q1, Bool.false_and, Bool.false_and, Bool.false_and]
    have q1' : (a1 == 0) = false := beq_eq_false_iff_ne.mpr q1
    go_enter Tryd.func19, Tryd.ntmps19
    go_wp2_with fail
    go_ret
    exact ⟨rfl, bel_⟩
set_option maxHeartbeats 4000000 in
set_option maxRecDepth 20000 in
theorem NU : Calls Tryd.prog 19 #[.agg #[.int .u8 7, .int .u32 a1, .int .u32 a2, .slice A3 l3.length c3, .slice A4 l4.length c4, .int .u32 a5, .slice A6 l6.length c6, .int .i64 a7, .int .i64 a8, .slice A9 l9.length c9]] w fun e w' => e = .returned (.bool (jJ ⟨7, a1, a2, l3, l4, ⟨a5, l6⟩, a7, a8, l9⟩)) ∧ Below w.heap.size w w' := by
  have H3 := iC.mk h3; have H4 := iC.mk h4; have H6 := iC.mk h6; have H9 := iC.mk h9
  clear h3 h4 h6 h9
  rw [Q4]
  cases hr : (nZ l9 && decide ((l9.length : Int) ≤ 5000)) with
  | false =>
    have HQ := iC.mk hr
    clear hr
    rw [Bool.false_and, Bool.false_and, Bool.false_and, Bool.false_and, Bool.false_and]
    go_enter Tryd.func19, Tryd.ntmps19
    go_wp2_with (go_at_call 66; refine (nK _ _ l9 _ (Kd.C_below H9.out bel_) d9).mono ?_; rintro e w1 ⟨rfl, hb1⟩; rw [HQ.out]; have hbk := ten (iJ hb1 (iM rfl)); obtain ⟨z0, z1, z2, z3, z4, z5, z6, z7, z8, z9, y0, y1, y2, y3, y4, y5, y6, y7, y8, y9⟩ := hbk)
    go_ret
    exact ⟨rfl, bel_⟩
  | true =>
    have HQ := iC.mk hr
    clear hr
    by_cases q1 : 0 ≤ a7
    · by_cases q2 : a7 ≤ 10000
      · by_cases q3 : 0 ≤ a8
        · by_cases q4 : a8 ≤ 10000
          · rw [decide_eq_true q1, decide_eq_true q2, decide_eq_true q3, decide_eq_true q4]
            rw [show (true && true && true && true && true && lJ 0 0 a2 l3 l4 a5 l6 0 0 []) = lJ 0 0 a2 l3 l4 a5 l6 0 0 [] by simp]
            generalize hp : lJ 0 0 a2 l3 l4 a5 l6 0 0 [] = P
            have HP := iC.mk hp
            clear hp
            go_enter Tryd.func19, Tryd.ntmps19
            go_wp2_with (first | (go_at_call 66; refine (nK _ _ l9 _ (Kd.C_below H9.out bel_) d9).mono ?_; rintro e w1 ⟨rfl, hb1⟩; rw [HQ.out]; have hbk := ten (iJ hb1 (iM rfl)); obtain ⟨z0, z1, z2, z3, z4, z5, z6, z7, z8, z9, y0, y1, y2, y3, y4, y5, y6, y7, y8, y9⟩ := hbk) | (go_at_call 67; refine (nP 0 0 a2 A3 c3 l3 A4 c4 l4 a5 A6 c6 l6 0 0 none 0 ([] : List jG) _ (Kd.C_below H3.out bel_) d3 (Kd.C_below H4.out bel_) d4 (Kd.C_below H6.out bel_) d6 (Kd.C_nil _ _) (Nat.le_refl _)).mono ?_; rintro e w9 ⟨rfl, hb9⟩))
            go_ret
            exact ⟨by rw [← HP.out]; rfl, bel_⟩
          · rw [decide_eq_false q4, Bool.and_false, Bool.false_and]
            go_enter Tryd.func19, Tryd.ntmps19
            go_wp2_with (go_at_call 66; refine (nK _ _ l9 _ (Kd.C_below H9.out bel_) d9).mono ?_; rintro e w1 ⟨rfl, hb1⟩; rw [HQ.out]; have hbk := ten (iJ hb1 (iM rfl)); obtain ⟨z0, z1, z2, z3, z4, z5, z6, z7, z8, z9, y0, y1, y2, y3, y4, y5, y6, y7, y8, y9⟩ := hbk)
            go_ret
            exact ⟨rfl, bel_⟩
        · rw [decide_eq_false q3, Bool.and_false, Bool.false_and, Bool.false_and]
          go_enter Tryd.func19, Tryd.ntmps19
          go_wp2_with (go_at_call 66; refine (nK _ _ l9 _ (Kd.C_below H9.out bel_) d9).mono ?_; rintro e w1 ⟨rfl, hb1⟩; rw [HQ.out]; have hbk := ten (iJ hb1 (iM rfl)); obtain ⟨z0, z1, z2, z3, z4, z5, z6, z7, z8, z9, y0, y1, y2, y3, y4, y5, y6, y7, y8, y9⟩ := hbk)
          go_ret
          exact ⟨rfl, bel_⟩
      · rw [decide_eq_false q2, Bool.and_false, Bool.false_and, Bool.false_and, Bool.false_and]
        go_enter Tryd.func19, Tryd.ntmps19
        go_wp2_with (go_at_call 66; refine (nK _ _ l9 _ (Kd.C_below H9.out bel_) d9).mono ?_; rintro e w1 ⟨rfl, hb1⟩; rw [HQ.out]; have hbk := ten (iJ hb1 (iM rfl)); obtain ⟨z0, z1, z2, z3, z4, z5, z6, z7, z8, z9, y0, y1, y2, y3, y4, y5, y6, y7, y8, y9⟩ := hbk)
        go_ret
        exact ⟨rfl, bel_⟩
    · rw [decide_eq_false q1, Bool.and_false, Bool.false_and, Bool.false_and, Bool.false_and, Bool.false_and]
      go_enter Tryd.func19, Tryd.ntmps19
      go_wp2_with (go_at_call 66; refine (nK _ _ l9 _ (Kd.C_below H9.out bel_) d9).mono ?_; rintro e w1 ⟨rfl, hb1⟩; rw [HQ.out]; have hbk := ten (iJ hb1 (iM rfl)); obtain ⟨z0, z1, z2, z3, z4, z5, z6, z7, z8, z9, y0, y1, y2, y3, y4, y5, y6, y7, y8, y9⟩ := hbk)
      go_ret
      exact ⟨rfl, bel_⟩
set_option maxHeartbeats 4000000 in
set_option maxRecDepth 20000 in
theorem OH (ha : a0 < 1 ∨ 7 < a0) : Calls Tryd.prog 19 #[.agg #[.int .u8 a0, .int .u32 a1, .int .u32 a2, .slice A3 l3.length c3, .slice A4 l4.length c4, .int .u32 a5, .slice A6 l6.length c6, .int .i64 a7, .int .i64 a8, .slice A9 l9.length c9]] w fun e w' => e = .returned (.bool (jJ ⟨a0, a1, a2, l3, l4, ⟨a5, l6⟩, a7, a8, l9⟩)) ∧ Below w.heap.size w w' := by
  have _ := d3; have _ := d4; have _ := d6; have _ := d9
  have H3 := iC.mk h3; have H4 := iC.mk h4; have H6 := iC.mk h6; have H9 := iC.mk h9
  clear h3 h4 h6 h9
  rw [PH _ _ _ _ _ _ _ _ _ _ ha]
  have q1 : (a0 == 1) = false := beq_eq_false_iff_ne.mpr (by omega)
  have q2 : (a0 == 2) = false := beq_eq_false_iff_ne.mpr (by omega)
  have q3 : (a0 == 3) = false := beq_eq_false_iff_ne.mpr (by omega)
  have q4 : (a0 == 4) = false := beq_eq_false_iff_ne.mpr (by omega)
  have q5 : (a0 == 5) = false := beq_eq_false_iff_ne.mpr (by omega)
  have q6 : (a0 == 6) = false := beq_eq_false_iff_ne.mpr (by omega)
  have q7 : (a0 == 7) = false := beq_eq_false_iff_ne.mpr (by omega)
  clear ha
  go_enter Tryd.func19, Tryd.ntmps19
  go_wp2
  go_ret
  exact ⟨rfl, bel_⟩
end
theorem code_Sound.calls (a0_0 : Int) (a0_1 : Int) (a0_2 : Int) (A0_3 : Option Addr) (c0_3 : Nat) (l0_3 : List Int) (A0_4 : Option Addr) (c0_4 : Nat) (l0_4 : List jQ) (a0_5 : Int) (A0_6 : Option Addr) (c0_6 : Nat) (l0_6 : List kC) (a0_7 : Int) (a0_8 : Int) (A0_9 : Option Addr) (c0_9 : Nat) (l0_9 : List jG) (r : Bool) (w : World) (hr0_3 : Kd.C (Kd.int .i64) w A0_3 l0_3.length l0_3) (hc0_3 : l0_3.length ≤ c0_3) (hr0_4 : Kd.C k139 w A0_4 l0_4.length l0_4) (hc0_4 : l0_4.length ≤ c0_4) (hr0_6 : Kd.C k98 w A0_6 l0_6.length l0_6) (hc0_6 : l0_6.length ≤ c0_6) (hr0_9 : Kd.C k86 w A0_9 l0_9.length l0_9) (hc0_9 : l0_9.length ≤ c0_9) (h : code_Sound.f a0_0 a0_1 a0_2 l0_3 l0_4 a0_5 l0_6 a0_7 a0_8 l0_9 = some r) :
    Calls Tryd.prog 19 #[.agg #[.int .u8 a0_0, .int .u32 a0_1, .int .u32 a0_2, .slice A0_3 l0_3.length c0_3, .slice A0_4 l0_4.length c0_4, .int .u32 a0_5, .slice A0_6 l0_6.length c0_6, .int .i64 a0_7, .int .i64 a0_8, .slice A0_9 l0_9.length c0_9]] w fun e w' => e = .returned (.bool r) ∧ Below w.heap.size w w' := by
  obtain rfl := Option.some.inj h
  clear h
  by_cases h0 : a0_0 < 1 ∨ 7 < a0_0
  · exact OH a0_0 a0_1 a0_2 A0_3 c0_3 l0_3 A0_4 c0_4 l0_4 a0_5 A0_6 c0_6 l0_6 a0_7 a0_8 A0_9 c0_9 l0_9 w hr0_3 hc0_3 hr0_4 hc0_4 hr0_6 hc0_6 hr0_9 hc0_9 h0
  have h7 : a0_0 = 1 ∨ a0_0 = 2 ∨ (a0_0 = 3 ∨ a0_0 = 4 ∨ a0_0 = 5) ∨ a0_0 = 6 ∨ a0_0 = 7 := by omega
  rcases h7 with rfl | rfl | h3 | rfl | rfl
  · exact P5 a0_1 a0_2 A0_3 c0_3 l0_3 A0_4 c0_4 l0_4 a0_5 A0_6 c0_6 l0_6 a0_7 a0_8 A0_9 c0_9 l0_9 w hr0_3 hc0_3 hr0_4 hc0_4 hr0_6 hc0_6 hr0_9 hc0_9
  · exact OO a0_1 a0_2 A0_3 c0_3 l0_3 A0_4 c0_4 l0_4 a0_5 A0_6 c0_6 l0_6 a0_7 a0_8 A0_9 c0_9 l0_9 w hr0_3 hc0_3 hr0_4 hc0_4 hr0_6 hc0_6 hr0_9 hc0_9
  · exact JA a0_0 a0_1 a0_2 A0_3 c0_3 l0_3 A0_4 c0_4 l0_4 a0_5 A0_6 c0_6 l0_6 a0_7 a0_8 A0_9 c0_9 l0_9 w hr0_3 hc0_3 hr0_4 hc0_4 hr0_6 hc0_6 hr0_9 hc0_9 h3
  · exact OC a0_1 a0_2 A0_3 c0_3 l0_3 A0_4 c0_4 l0_4 a0_5 A0_6 c0_6 l0_6 a0_7 a0_8 A0_9 c0_9 l0_9 w hr0_3 hc0_3 hr0_4 hc0_4 hr0_6 hc0_6 hr0_9 hc0_9
  · exact NU a0_1 a0_2 A0_3 c0_3 l0_3 A0_4 c0_4 l0_4 a0_5 A0_6 c0_6 l0_6 a0_7 a0_8 A0_9 c0_9 l0_9 w hr0_3 hc0_3 hr0_4 hc0_4 hr0_6 hc0_6 hr0_9 hc0_9
end Go.Proofs.YtgfkgppomaapiaaDoor.K
end
