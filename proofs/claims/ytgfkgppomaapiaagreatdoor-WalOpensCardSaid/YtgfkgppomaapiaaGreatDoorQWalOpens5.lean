/- Parts of the proof, one behind the other: SoundH, RefE, ReadS, Region, RegCS, ReadF, ReadE, ReadR, CodeT, K42. -/
import Derived.Test.YtgfkgppomaapiaaGreatDoorQWalOpens4
import Derived.Deep.WholeRow
import Derived.Laws.Tables
import Derived.Recover
import Derived.Defers
set_option linter.unusedVariables false
set_option linter.unusedSimpArgs false
section
namespace Go.Proofs.YtgfkgppomaapiaaGreatDoor.K
open RowKit YtgfkgppomaapiaaGreatDoorW.PrintWords YtgfkgppomaapiaaGreatDoorW.PrintLast YtgfkgppomaapiaaGreatDoorW.PrintMore My
theorem jc7 {w : World} {A4 A9 : Option Addr} {l3 : List Int} {l4 : List jR} {l6 : List kD} {l9 : List jL} {A3 A6 : Option Addr} (h3 : Kd.C (Kd.int .i64) w A3 l3.length l3) (h4 : Kd.C k149 w A4 l4.length l4) (h6 : Kd.C k122 w A6 l6.length l6) (h9 : Kd.C k114 w A9 l9.length l9) : jg0 l3 l4 l6 l9 := by
 have key : ∀ {A : Option Addr} {l : List jR}, Kd.C k149 w A l.length l → ∀ f ∈ l, f.f0.length ≤ 9223372036854775807 := by
  intro A l h f hf
  obtain ⟨i, hi, rfl⟩ := List.getElem_of_mem hf
  obtain ⟨_, _, _, _, _, _, _, hC⟩ := lM h i (by omega) (by omega)
  have e : jA l i = l[i] := by unfold jA; rw [Int.toNat_natCast, List.getD_eq_getElem?_getD, List.getElem?_eq_getElem hi]; rfl
  rw [e] at hC
  exact kZ hC
 refine ⟨kZ h3, kZ h4, key h4, kZ h6, kZ h9, fun e he => ?_⟩
 obtain ⟨i, hi, rfl⟩ := List.getElem_of_mem he
 obtain ⟨_, _, _, _, _, _, _, hC⟩ := kS h9 i (by omega) (by omega)
 have e : iK l9 i = l9[i] := by unfold iK; rw [Int.toNat_natCast, List.getD_eq_getElem?_getD, List.getElem?_eq_getElem hi]; rfl
 rw [e] at hC
 exact ⟨kZ hC, key hC⟩
section
variable (a0 a1 a2 : Int) (A3 : Option Addr) (c3 : Nat) (l3 : List Int) (A4 : Option Addr) (c4 : Nat) (l4 : List jR) (a5 : Int) (A6 : Option Addr) (c6 : Nat) (l6 : List kD) (a7 a8 : Int) (A9 : Option Addr) (c9 : Nat) (l9 : List jL) (w : World)
set_option maxRecDepth 20000 in
set_option maxHeartbeats 8000000 in
theorem mQ (h3 : Kd.C (Kd.int .i64) w A3 l3.length l3) (d3 : l3.length ≤ c3) (h4 : Kd.C k149 w A4 l4.length l4) (d4 : l4.length ≤ c4) (h6 : Kd.C k122 w A6 l6.length l6) (d6 : l6.length ≤ c6) (h9 : Kd.C k114 w A9 l9.length l9) (d9 : l9.length ≤ c9) :
  Calls Tryz.prog 71 #[.agg #[.int .u8 a0, .int .u32 a1, .int .u32 a2, .slice A3 l3.length c3, .slice A4 l4.length c4, .int .u32 a5, .slice A6 l6.length c6, .int .i64 a7, .int .i64 a8, .slice A9 l9.length c9]] w fun e w' => e = .returned (.bool (jQ ⟨a0, a1, a2, l3, l4, ⟨a5, l6⟩, a7, a8, l9⟩)) ∧ Below w.heap.size w w' := by
 have hrl := jc7 h3 h4 h6 h9
 obtain ⟨W, hW⟩ : ∃ W, W = w.alloc (.cells #[.int .u8 a0, .int .u32 a1, .int .u32 a2, .slice A3 l3.length c3, .slice A4 l4.length c4, .int .u32 a5, .slice A6 l6.length c6, .int .i64 a7, .int .i64 a8, .slice A9 l9.length c9] 54) := ⟨_, rfl⟩
 have hb : Below w.heap.size w W := by rw [hW]; exact iD (Below.refl _ _) _
 have HX := iC.mk (show W.heap[w.heap.size]? = some (.cells #[.int .u8 a0, .int .u32 a1, .int .u32 a2, .slice A3 l3.length c3, .slice A4 l4.length c4, .int .u32 a5, .slice A6 l6.length c6, .int .i64 a7, .int .i64 a8, .slice A9 l9.length c9] 54 (0, 0)) from by rw [hW]; exact iO rfl)
 have H3 := iC.mk (Kd.C_below h3 hb)
 have H4 := iC.mk (Kd.C_below h4 hb)
 have H6 := iC.mk (Kd.C_below h6 hb)
 have H9 := iC.mk (Kd.C_below h9 hb)
 have HB := iC.mk hb
 have HW := iC.mk hW
 clear h3 h4 h6 h9 hb hW
 have hbare := fun s r h => stratumref07_bare.calls a0 a1 a2 A3 c3 l3 A4 c4 l4 a5 A6 c6 l6 a7 a8 A9 c9 l9 s r W H3.out d3 H4.out d4 H6.out d6 H9.out d9 h
 have e1 := rM a0 a1 a2 l3 l4 a5 l6 a7 a8 l9 [73, 78, 70] (by decide)
 have e2 := rM a0 a1 a2 l3 l4 a5 l6 a7 a8 l9 [73, 65, 78] (by decide)
 have e3 := rM a0 a1 a2 l3 l4 a5 l6 a7 a8 l9 [73] (by decide)
 have e4 := rM a0 a1 a2 l3 l4 a5 l6 a7 a8 l9 [77] (by decide)
 have e5 := rM a0 a1 a2 l3 l4 a5 l6 a7 a8 l9 [73, 82] (by decide)
 have b1 : yP a1 a2 l3 l4 a5 l6 a7 a8 l9 [73, 78, 70] = (a2 == 0 && (a5 == 0 && l6.isEmpty) && (a7 == 0 && a8 == 0 && l9.isEmpty)) := by unfold yP flag; rw [lenb, lenb, lenb, lenb]; simp
 have b2 : yP a1 a2 l3 l4 a5 l6 a7 a8 l9 [73, 65, 78] = (l4.isEmpty && (a5 == 0 && l6.isEmpty) && (a7 == 0 && a8 == 0 && l9.isEmpty)) := by unfold yP flag; rw [lenb, lenb, lenb, lenb]; simp
 have b3 : yP a1 a2 l3 l4 a5 l6 a7 a8 l9 [73] = (a2 == 0 && l3.isEmpty && l4.isEmpty && (a5 == 0 && l6.isEmpty) && (a7 == 0 && a8 == 0 && l9.isEmpty)) := by unfold yP flag; rw [lenb, lenb, lenb, lenb]; simp
 have b4 : yP a1 a2 l3 l4 a5 l6 a7 a8 l9 [77] = (a1 == 0 && a2 == 0 && l3.isEmpty && l4.isEmpty && (a7 == 0 && a8 == 0 && l9.isEmpty)) := by unfold yP flag; rw [lenb, lenb, lenb, lenb]; simp
 have b5 : yP a1 a2 l3 l4 a5 l6 a7 a8 l9 [73, 82] = (a2 == 0 && l3.isEmpty && l4.isEmpty && (a5 == 0 && l6.isEmpty)) := by unfold yP flag; rw [lenb, lenb, lenb, lenb]; simp
 rw [b1] at e1; rw [b2] at e2; rw [b3] at e3; rw [b4] at e4; rw [b5] at e5
 clear b1 b2 b3 b4 b5
 have n3 := LH l3 hrl.n3
 have n4 := xG l4 hrl.n4 hrl.f4
 have n6 := U6 l6 hrl.n6
 have n9 := zB l9 hrl.n9 hrl.f9
 obtain ⟨k3, g3⟩ := n3.rounds
 obtain ⟨k4, g4⟩ := n4.rounds
 obtain ⟨k6, g6⟩ := n6.rounds
 obtain ⟨k9, g9⟩ := n9.rounds
 have q3 := iC.mk (fun w2 (hb : Below W.heap.size W w2) => stratumref07_SoundNodes.calls k3 A3 c3 l3 _ w2 (Kd.C_below H3.out hb) d3 g3)
 have q4 := iC.mk (fun w2 (hb : Below W.heap.size W w2) => stratumref07_SoundFacts.calls k4 A4 c4 l4 _ w2 (Kd.C_below H4.out hb) d4 g4)
 have q6 := iC.mk (fun w2 (hb : Below W.heap.size W w2) => stratumref07_spans.calls k6 A6 c6 l6 _ w2 (Kd.C_below H6.out hb) d6 g6)
 have q9 := iC.mk (fun w2 (hb : Below W.heap.size W w2) => stratumref07_SoundEntries.calls k9 A9 c9 l9 _ w2 (Kd.C_below H9.out hb) d9 g9)
 clear n3 n4 n6 n9 g3 g4 g6 g9 hrl H3 H4 H6 H9
 by_cases h1 : a0 = 1
 ·have hs : jQ ⟨a0, a1, a2, l3, l4, ⟨a5, l6⟩, a7, a8, l9⟩ = ((a2 == 0 && (a5 == 0 && l6.isEmpty) && (a7 == 0 && a8 == 0 && l9.isEmpty)) && (mP (-1) l3 && mD l4)) := by
   unfold jQ
   simp only [h1, if_true]
   rw [Bool.eq_iff_iff]
   simp only [Bool.and_eq_true]
   constructor <;> (intro h; simp only [h, and_self])
  rw [hs]
  clear hs
  subst h1
  have hcall := hbare _ _ e1
  clear hbare e1 e2 e3 e4 e5
  generalize (a2 == 0 && (a5 == 0 && l6.isEmpty) && (a7 == 0 && a8 == 0 && l9.isEmpty)) = B at hcall ⊢
  generalize mP (-1) l3 = N at q3 ⊢
  generalize mD l4 = F at q4 ⊢
  go_enter Tryz.func71, Tryz.ntmps71
  go_upto_region 1 with fail
  rw [← HW.out]
  clear HW
  obtain ⟨wz0, wz1, wz2, wz3, wz4, wz5, wz6, wz7, wz8, wz9, wy0, wy1, wy2, wy3, wy4, wy5, wy6, wy7, wy8, wy9⟩ := ten (HX.out)
  clear wy0 wy1 wy2 wy3 wy4 wy5 wy6 wy7 wy8 wy9
  go_wp2_with fail
  go_at_call 101
  refine hcall.mono ?_
  rintro e w1 ⟨rfl, hb1⟩
  have HB1 := iC.mk hb1
  clear hcall hb1 wz0 wz1 wz2 wz3 wz4 wz5 wz6 wz7 wz8 wz9
  cases B with
  | false =>
   go_wp2
   go_ret
   exact ⟨rfl, iF HB.out HB1.out⟩
  | true =>
   have hcall := q3.out w1 HB1.out
   obtain ⟨wz0, wz1, wz2, wz3, wz4, wz5, wz6, wz7, wz8, wz9, wy0, wy1, wy2, wy3, wy4, wy5, wy6, wy7, wy8, wy9⟩ := ten (iJ HB1.out HX.out)
   clear wy0 wy1 wy2 wy3 wy4 wy5 wy6 wy7 wy8 wy9
   go_wp2_with fail
   go_at_call 102
   refine hcall.mono ?_
   rintro e w2 ⟨rfl, hd⟩
   have HB2 := iC.mk (iF HB1.out hd.below)
   clear hcall hd wz0 wz1 wz2 wz3 wz4 wz5 wz6 wz7 wz8 wz9
   cases N with
   | false =>
    go_wp2
    go_ret
    exact ⟨rfl, iF HB.out HB2.out⟩
   | true =>
    have hcall := q4.out w2 HB2.out
    obtain ⟨wz0, wz1, wz2, wz3, wz4, wz5, wz6, wz7, wz8, wz9, wy0, wy1, wy2, wy3, wy4, wy5, wy6, wy7, wy8, wy9⟩ := ten (iJ HB2.out HX.out)
    clear wy0 wy1 wy2 wy3 wy4 wy5 wy6 wy7 wy8 wy9
    go_wp2_with fail
    go_at_call 103
    refine hcall.mono ?_
    rintro e w3 ⟨rfl, hd⟩
    have HB3 := iC.mk (iF HB2.out hd.below)
    clear hcall hd wz0 wz1 wz2 wz3 wz4 wz5 wz6 wz7 wz8 wz9
    go_wp2
    go_ret
    exact ⟨by simp, iF HB.out HB3.out⟩
 by_cases h2 : a0 = 2
 ·have hs : jQ ⟨a0, a1, a2, l3, l4, ⟨a5, l6⟩, a7, a8, l9⟩ = ((l4.isEmpty && (a5 == 0 && l6.isEmpty) && (a7 == 0 && a8 == 0 && l9.isEmpty)) && mP (-1) l3) := by
   unfold jQ
   simp only [h2, if_true, if_false, show ¬ (2 : Int) = 1 from by decide]
   rw [Bool.eq_iff_iff]
   simp only [Bool.and_eq_true]
   constructor <;> (intro h; simp only [h, and_self])
  rw [hs]
  clear hs
  subst h2
  have hcall := hbare _ _ e2
  clear hbare e1 e2 e3 e4 e5
  generalize (l4.isEmpty && (a5 == 0 && l6.isEmpty) && (a7 == 0 && a8 == 0 && l9.isEmpty)) = B at hcall ⊢
  generalize mP (-1) l3 = N at q3 ⊢
  go_enter Tryz.func71, Tryz.ntmps71
  go_upto_region 1 with fail
  rw [← HW.out]
  clear HW
  obtain ⟨wz0, wz1, wz2, wz3, wz4, wz5, wz6, wz7, wz8, wz9, wy0, wy1, wy2, wy3, wy4, wy5, wy6, wy7, wy8, wy9⟩ := ten (HX.out)
  clear wy0 wy1 wy2 wy3 wy4 wy5 wy6 wy7 wy8 wy9
  go_wp2_with fail
  go_at_call 101
  refine hcall.mono ?_
  rintro e w1 ⟨rfl, hb1⟩
  have HB1 := iC.mk hb1
  clear hcall hb1 wz0 wz1 wz2 wz3 wz4 wz5 wz6 wz7 wz8 wz9
  cases B with
  | false =>
   go_wp2
   go_ret
   exact ⟨rfl, iF HB.out HB1.out⟩
  | true =>
   have hcall := q3.out w1 HB1.out
   obtain ⟨wz0, wz1, wz2, wz3, wz4, wz5, wz6, wz7, wz8, wz9, wy0, wy1, wy2, wy3, wy4, wy5, wy6, wy7, wy8, wy9⟩ := ten (iJ HB1.out HX.out)
   clear wy0 wy1 wy2 wy3 wy4 wy5 wy6 wy7 wy8 wy9
   go_wp2_with fail
   go_at_call 102
   refine hcall.mono ?_
   rintro e w2 ⟨rfl, hd⟩
   have HB2 := iC.mk (iF HB1.out hd.below)
   clear hcall hd wz0 wz1 wz2 wz3 wz4 wz5 wz6 wz7 wz8 wz9
   go_wp2
   go_ret
   exact ⟨by simp, iF HB.out HB2.out⟩
 by_cases h3 : a0 = 3 ∨ a0 = 4 ∨ a0 = 5
 ·have hs : jQ ⟨a0, a1, a2, l3, l4, ⟨a5, l6⟩, a7, a8, l9⟩ = (a2 == 0 && l3.isEmpty && l4.isEmpty && (a5 == 0 && l6.isEmpty) && (a7 == 0 && a8 == 0 && l9.isEmpty)) := by
   have hd : (decide (a0 = 3) || decide (a0 = 4) || decide (a0 = 5)) = true := by simp; omega
   unfold jQ
   simp only [h1, h2, hd, if_true, if_false]
   rw [Bool.eq_iff_iff]
   simp only [Bool.and_eq_true]
   constructor <;> (intro h; simp only [h, and_self])
  rw [hs]
  clear hs
  have hcall := hbare _ _ e3
  clear hbare e1 e2 e3 e4 e5
  generalize (a2 == 0 && l3.isEmpty && l4.isEmpty && (a5 == 0 && l6.isEmpty) && (a7 == 0 && a8 == 0 && l9.isEmpty)) = B at hcall ⊢
  rcases h3 with rfl | rfl | rfl
  all_goals
   go_enter Tryz.func71, Tryz.ntmps71
   go_upto_region 1 with fail
   rw [← HW.out]
   clear HW
   obtain ⟨wz0, wz1, wz2, wz3, wz4, wz5, wz6, wz7, wz8, wz9, wy0, wy1, wy2, wy3, wy4, wy5, wy6, wy7, wy8, wy9⟩ := ten (HX.out)
   clear wy0 wy1 wy2 wy3 wy4 wy5 wy6 wy7 wy8 wy9
   go_wp2_with fail
   go_at_call 101
   refine hcall.mono ?_
   rintro e w1 ⟨rfl, hb1⟩
   have HB1 := iC.mk hb1
   clear hcall hb1 wz0 wz1 wz2 wz3 wz4 wz5 wz6 wz7 wz8 wz9
   go_wp2
   go_ret
   exact ⟨rfl, iF HB.out HB1.out⟩
 have hd : (decide (a0 = 3) || decide (a0 = 4) || decide (a0 = 5)) = false := by simp; omega
 by_cases h6 : a0 = 6
 ·have hs : jQ ⟨a0, a1, a2, l3, l4, ⟨a5, l6⟩, a7, a8, l9⟩ = ((a1 == 0 && a2 == 0 && l3.isEmpty && l4.isEmpty && (a7 == 0 && a8 == 0 && l9.isEmpty)) && (l6.all mM && decide ((l6.length : Int) ≤ 40))) := by
   unfold jQ
   simp only [h1, h2, hd, h6, if_true, if_false, Bool.false_eq_true]
   rw [show decide ((l6.length : Int) ≤ 40) = decide (l6.length ≤ 40) from by rw [decide_eq_decide]; omega]
   simp only [show ¬ (6 : Int) = 1 from by decide, show ¬ (6 : Int) = 2 from by decide, if_false, show (decide ((6 : Int) = 3) || decide ((6 : Int) = 4) || decide ((6 : Int) = 5)) = false from by decide, Bool.false_eq_true]
   rw [Bool.eq_iff_iff]
   simp only [Bool.and_eq_true]
   constructor <;> (intro h; simp only [h, and_self])
  rw [hs]
  clear hs hd
  subst h6
  have hcall := hbare _ _ e4
  clear hbare e1 e2 e3 e4 e5
  generalize (a1 == 0 && a2 == 0 && l3.isEmpty && l4.isEmpty && (a7 == 0 && a8 == 0 && l9.isEmpty)) = B at hcall ⊢
  generalize (l6.all mM && decide ((l6.length : Int) ≤ 40)) = N at q6 ⊢
  go_enter Tryz.func71, Tryz.ntmps71
  go_upto_region 1 with fail
  rw [← HW.out]
  clear HW
  obtain ⟨wz0, wz1, wz2, wz3, wz4, wz5, wz6, wz7, wz8, wz9, wy0, wy1, wy2, wy3, wy4, wy5, wy6, wy7, wy8, wy9⟩ := ten (HX.out)
  clear wy0 wy1 wy2 wy3 wy4 wy5 wy6 wy7 wy8 wy9
  go_wp2_with fail
  go_at_call 101
  refine hcall.mono ?_
  rintro e w1 ⟨rfl, hb1⟩
  have HB1 := iC.mk hb1
  clear hcall hb1 wz0 wz1 wz2 wz3 wz4 wz5 wz6 wz7 wz8 wz9
  cases B with
  | false =>
   go_wp2
   go_ret
   exact ⟨rfl, iF HB.out HB1.out⟩
  | true =>
   have hcall := q6.out w1 HB1.out
   obtain ⟨wz0, wz1, wz2, wz3, wz4, wz5, wz6, wz7, wz8, wz9, wy0, wy1, wy2, wy3, wy4, wy5, wy6, wy7, wy8, wy9⟩ := ten (iJ HB1.out HX.out)
   clear wy0 wy1 wy2 wy3 wy4 wy5 wy6 wy7 wy8 wy9
   go_wp2_with fail
   go_at_call 104
   refine hcall.mono ?_
   rintro e w2 ⟨rfl, hd⟩
   have HB2 := iC.mk (iF HB1.out hd.below)
   clear hcall hd wz0 wz1 wz2 wz3 wz4 wz5 wz6 wz7 wz8 wz9
   go_wp2
   go_ret
   exact ⟨by simp, iF HB.out HB2.out⟩
 by_cases h7 : a0 = 7
 ·have hs : jQ ⟨a0, a1, a2, l3, l4, ⟨a5, l6⟩, a7, a8, l9⟩ = ((a2 == 0 && l3.isEmpty && l4.isEmpty && (a5 == 0 && l6.isEmpty)) && ((nO l9 && decide ((l9.length : Int) ≤ 5000)) && (decide (0 ≤ a7) && decide (a7 ≤ 10000) && decide (0 ≤ a8) && decide (a8 ≤ 10000)))) := by
   unfold jQ
   simp only [h7, if_true, if_false, show ¬ (7 : Int) = 1 from by decide, show ¬ (7 : Int) = 2 from by decide, show ¬ (7 : Int) = 6 from by decide, show (decide ((7 : Int) = 3) || decide ((7 : Int) = 4) || decide ((7 : Int) = 5)) = false from by decide, Bool.false_eq_true]
   rw [show decide ((l9.length : Int) ≤ 5000) = decide (l9.length ≤ 5000) from by rw [decide_eq_decide]; omega]
   rw [Bool.eq_iff_iff]
   simp only [Bool.and_eq_true]
   constructor <;> (intro h; simp only [h, and_self])
  rw [hs]
  clear hs hd
  subst h7
  have hcall := hbare _ _ e5
  clear hbare e1 e2 e3 e4 e5
  generalize (a2 == 0 && l3.isEmpty && l4.isEmpty && (a5 == 0 && l6.isEmpty)) = B at hcall ⊢
  generalize (nO l9 && decide ((l9.length : Int) ≤ 5000)) = N at q9 ⊢
  go_enter Tryz.func71, Tryz.ntmps71
  go_upto_region 1 with fail
  rw [← HW.out]
  clear HW
  obtain ⟨wz0, wz1, wz2, wz3, wz4, wz5, wz6, wz7, wz8, wz9, wy0, wy1, wy2, wy3, wy4, wy5, wy6, wy7, wy8, wy9⟩ := ten (HX.out)
  clear wy0 wy1 wy2 wy3 wy4 wy5 wy6 wy7 wy8 wy9
  go_wp2_with fail
  go_at_call 101
  refine hcall.mono ?_
  rintro e w1 ⟨rfl, hb1⟩
  have HB1 := iC.mk hb1
  clear hcall hb1 wz0 wz1 wz2 wz3 wz4 wz5 wz6 wz7 wz8 wz9
  cases B with
  | false =>
   go_wp2
   go_ret
   exact ⟨rfl, iF HB.out HB1.out⟩
  | true =>
   have hcall := q9.out w1 HB1.out
   obtain ⟨wz0, wz1, wz2, wz3, wz4, wz5, wz6, wz7, wz8, wz9, wy0, wy1, wy2, wy3, wy4, wy5, wy6, wy7, wy8, wy9⟩ := ten (iJ HB1.out HX.out)
   clear wy0 wy1 wy2 wy3 wy4 wy5 wy6 wy7 wy8 wy9
   go_wp2_with fail
   go_at_call 105
   refine hcall.mono ?_
   rintro e w2 ⟨rfl, hd⟩
   have HB2 := iC.mk (iF HB1.out hd.below)
   clear hcall hd wz0 wz1 wz2 wz3 wz4 wz5 wz6 wz7 wz8 wz9
   cases N with
   | false =>
    go_wp2
    go_ret
    exact ⟨rfl, iF HB.out HB2.out⟩
   | true =>
    obtain ⟨wz0, wz1, wz2, wz3, wz4, wz5, wz6, wz7, wz8, wz9, wy0, wy1, wy2, wy3, wy4, wy5, wy6, wy7, wy8, wy9⟩ := ten (iJ HB2.out HX.out)
    clear wy0 wy1 wy2 wy3 wy4 wy5 wy6 wy7 wy8 wy9
    by_cases p1 : 0 ≤ a7
    ·by_cases p2 : a7 ≤ 10000
     ·by_cases p3 : 0 ≤ a8
      ·by_cases p4 : a8 ≤ 10000
       ·go_wp2
        go_ret
        exact ⟨by simp [p1, p2, p3, p4], iF HB.out HB2.out⟩
       ·go_wp2
        go_ret
        exact ⟨by simp [p1, p2, p3, p4] <;> omega, iF HB.out HB2.out⟩
      ·go_wp2
       go_ret
       exact ⟨by simp [p1, p2, p3] <;> omega, iF HB.out HB2.out⟩
     ·go_wp2
      go_ret
      exact ⟨by simp [p1, p2] <;> omega, iF HB.out HB2.out⟩
    ·go_wp2
     go_ret
     exact ⟨by simp [p1] <;> omega, iF HB.out HB2.out⟩
 ·have hs : jQ ⟨a0, a1, a2, l3, l4, ⟨a5, l6⟩, a7, a8, l9⟩ = false := by
   unfold jQ
   simp only [h1, h2, hd, h6, h7, if_false, Bool.false_eq_true]
  rw [hs]
  clear hs hd hbare e1 e2 e3 e4 e5
  have p3 : ¬ a0 = 3 := by omega
  have p4 : ¬ a0 = 4 := by omega
  have p5 : ¬ a0 = 5 := by omega
  clear h3
  go_enter Tryz.func71, Tryz.ntmps71
  go_upto_region 1 with fail
  rw [← HW.out]
  clear HW
  obtain ⟨wz0, wz1, wz2, wz3, wz4, wz5, wz6, wz7, wz8, wz9, wy0, wy1, wy2, wy3, wy4, wy5, wy6, wy7, wy8, wy9⟩ := ten (HX.out)
  clear wy0 wy1 wy2 wy3 wy4 wy5 wy6 wy7 wy8 wy9
  go_wp2
  go_ret
  exact ⟨rfl, HB.out⟩
end
end Go.Proofs.YtgfkgppomaapiaaGreatDoor.K
end

section
namespace Go.Proofs.YtgfkgppomaapiaaGreatDoor.K
open RowKit YtgfkgppomaapiaaGreatDoorW.PrintWords YtgfkgppomaapiaaGreatDoorW.PrintLast YtgfkgppomaapiaaGreatDoorW.PrintMore My
theorem lF {w1 w2 : World} {B : Nat} {o : Obj} (hk : Kept w1 w2 (fun k => B < k)) (hx : w1.heap[B]? = some o) : w2.heap[B]? = some o := (hk.2 B (jC hx) (Nat.lt_irrefl B)).trans hx
theorem NW (w : World) (base : Nat) (x : Int) (B : Nat) (hb : base ≤ w.heap.size) (hB : B < w.heap.size) : Kd.R (Kd.int .u8) 5 (w.alloc (.cells #[.int .u8 x] 5)) base (fun k => B < k) (.slice (some ⟨w.heap.size, 0, none⟩) 1 1) [x] := by
 refine Kd.R_of_own (enc := Value.int .u8) (h1 := fun _ => rfl) ⟨rfl, .inr ⟨w.heap.size, 1, #[.int .u8 x], rfl, hb, iO rfl, Nat.le_refl _, by unfold maxLen; omega, rfl, rfl⟩⟩ ?_
 intro k hk
 have : w.heap.size = k := by simpa [Value.ownBlock] using hk
 omega
def pW (w : World) (r : List Int × Int) (e : Ending) (w' : World) : Prop := ∃ v0_ : Value, e = .returned (.tuple #[v0_, .int .i64 r.2]) ∧ Kd.R (Kd.int .u8) 5 w' w.heap.size (fun _ => True) v0_ r.1 ∧ Below w.heap.size w w'
section
variable (a1 a2 : Int) (A3 : Option Addr) (c3 : Nat) (l3 : List Int) (A4 : Option Addr) (c4 : Nat) (l4 : List jR) (a5 : Int) (A6 : Option Addr) (c6 : Nat) (l6 : List kD) (a7 a8 : Int) (A9 : Option Addr) (c9 : Nat) (l9 : List jL) (w : World)
  (h3 : Kd.C (Kd.int .i64) w A3 l3.length l3) (d3 : l3.length ≤ c3) (h4 : Kd.C k149 w A4 l4.length l4) (d4 : l4.length ≤ c4) (h6 : Kd.C k122 w A6 l6.length l6) (d6 : l6.length ≤ c6) (h9 : Kd.C k114 w A9 l9.length l9) (d9 : l9.length ≤ c9)
include h3 d3 h4 d4 h6 d6 h9 d9
set_option maxHeartbeats 8000000 in
set_option maxRecDepth 20000 in
theorem XM (hs : jQ ⟨1, a1, a2, l3, l4, ⟨a5, l6⟩, a7, a8, l9⟩ = true) : Calls Tryz.prog 44 #[.agg #[.int .u8 1, .int .u32 a1, .int .u32 a2, .slice A3 l3.length c3, .slice A4 l4.length c4, .int .u32 a5, .slice A6 l6.length c6, .int .i64 a7, .int .i64 a8, .slice A9 l9.length c9]] w (pW w (encR ⟨1, a1, a2, l3, l4, ⟨a5, l6⟩, a7, a8, l9⟩)) := by
 have H3 := iC.mk h3; have H4 := iC.mk h4; have H6 := iC.mk h6; have H9 := iC.mk h9
 have hbw : Below w.heap.size w (w.alloc (.cells #[.int .u8 1, .int .u32 a1, .int .u32 a2, .slice A3 l3.length c3, .slice A4 l4.length c4, .int .u32 a5, .slice A6 l6.length c6, .int .i64 a7, .int .i64 a8, .slice A9 l9.length c9] 54)) := iD (Below.refl _ _) _
 have hsnd := mQ 1 a1 a2 A3 c3 l3 A4 c4 l4 a5 A6 c6 l6 a7 a8 A9 c9 l9 (w.alloc (.cells #[.int .u8 1, .int .u32 a1, .int .u32 a2, .slice A3 l3.length c3, .slice A4 l4.length c4, .int .u32 a5, .slice A6 l6.length c6, .int .i64 a7, .int .i64 a8, .slice A9 l9.length c9] 54)) (Kd.C_below h3 hbw) d3 (Kd.C_below h4 hbw) d4 (Kd.C_below h6 hbw) d6 (Kd.C_below h9 hbw) d9
 rw [hs] at hsnd
 have HS := iC.mk hs
 have q3 : l3.length ≤ 6 ∧ (kL l4).length ≤ 5004 := by
  have h := HS.out
  rw [WZ, Bool.and_eq_true, Bool.and_eq_true] at h
  exact ⟨qG _ h.1.1, xB _ h.1.2⟩
 unfold encR
 rw [if_pos HS.out]
 obtain ⟨X, hX⟩ : ∃ X : List UInt8, X = recE ⟨1, a1, a2, l3, l4, ⟨a5, l6⟩, a7, a8, l9⟩ := ⟨_, rfl⟩
 rw [← hX]
 have HXX := iC.mk hX
 obtain ⟨r, hr⟩ : ∃ r : List Int × Int, r = (if 60000 < X.length then ([], 3) else (nums X, 0)) := ⟨_, rfl⟩
 rw [← hr]
 have HRR := iC.mk hr
 clear hr hs hX hbw h3 h4 h6 h9
 go_enter Tryz.func44, Tryz.ntmps44
 go_wp2_with fail
 go_at_call 71
 (with_reducible refine hsnd.mono ?_)
 clear hsnd
 rintro e w0 ⟨rfl, hb1⟩
 have hB0 : Below w.heap.size w w0 := iF (iD (Below.refl _ _) _) hb1
 have hX0 : w0.heap[w.heap.size]? = some (.cells #[.int .u8 1, .int .u32 a1, .int .u32 a2, .slice A3 l3.length c3, .slice A4 l4.length c4, .int .u32 a5, .slice A6 l6.length c6, .int .i64 a7, .int .i64 a8, .slice A9 l9.length c9] 54 (0, 0)) := iJ hb1 (iO rfl)
 obtain ⟨z0, z1, z2, z3, z4, z5, z6, z7, z8, z9, y0, y1, y2, y3, y4, y5, y6, y7, y8, y9⟩ := ten hX0
 have HO := iC.mk (NW w0 w.heap.size 1 w.heap.size hB0.size (jC hX0))
 have HB := iC.mk (iD hB0 (.cells #[.int .u8 1] 5))
 have HX := iC.mk (jG (o := .cells #[.int .u8 1] 5) hX0)
 have HW1 := iC.mk (show w0.alloc (.cells #[.int .u8 1] 5) = w0.alloc (.cells #[.int .u8 1] 5) from rfl)
 clear hb1 hB0 hX0
 go_upto_region 4 with fail
 clear z0 z1 z2 z3 z4 z5 z6 z7 z8 z9 y0 y1 y2 y3 y4 y5 y6 y7 y8 y9
 obtain ⟨w1, hw1⟩ : ∃ x, x = w0.alloc (.cells #[.int .u8 1] 5) := ⟨_, rfl⟩
 rw [← hw1] at HO HB HX ⊢
 clear HW1
 have HW1 := iC.mk hw1
 clear hw1
 obtain ⟨L1, hL⟩ : ∃ l, l = [(1 : Int)] := ⟨_, rfl⟩
 have hn1 : L1.length ≤ 1 := by rw [hL]; simp
 rw [← hL] at HO
 have HL1 := iC.mk hL
 clear hL
 obtain ⟨z0, z1, z2, z3, z4, z5, z6, z7, z8, z9, y0, y1, y2, y3, y4, y5, y6, y7, y8, y9⟩ := ten HX.out
 have hcall := lQ (fun k => w.heap.size < k) (.slice (some ⟨w0.heap.size, 0, none⟩) 1 1) L1 (a1) (IntKind.u64.wrap a1) 4 4 w w1 (by first | rfl | (rw [wrap_u64]; omega)) rfl (by omega) (by omega) HB.out HO.out
 go_wp2_with fail
 go_at_call 72
 (with_reducible refine hcall.mono ?_)
 clear hcall z0 z1 z2 z3 z4 z5 z6 z7 z8 z9 y0 y1 y2 y3 y4 y5 y6 y7 y8 y9
 rintro e w2 ⟨v2, rfl, ho, hb, hk⟩
 have HO' := iC.mk (Kd.R_mono (ok' := fun k => w.heap.size < k) ho (fun k h => h.elim id (fun h => Nat.lt_of_lt_of_le (jC HX.out) h)))
 have HX' := iC.mk (lF hk HX.out)
 have HB' := iC.mk hb
 clear ho hb hk HO HX HB
 obtain ⟨HO, HX, HB⟩ : _ ∧ _ ∧ _ := ⟨HO', HX', HB'⟩
 clear HO' HX' HB'
 obtain ⟨Ao, co, rfl⟩ := Kd.R_slice HO.out
 obtain ⟨L2, hL⟩ : ∃ l, l = L1 ++ nums (layB a1 4) := ⟨_, rfl⟩
 have hn2 : L2.length ≤ 5 := by rw [hL]; simp only [List.length_append, jJ, iL]; omega
 rw [← hL] at HO ⊢
 have HL2 := iC.mk hL
 clear hL hn1
 obtain ⟨z0, z1, z2, z3, z4, z5, z6, z7, z8, z9, y0, y1, y2, y3, y4, y5, y6, y7, y8, y9⟩ := ten HX.out
 have hcall := JD (fun k => w.heap.size < k) _ L2 A3 c3 l3 w w2 (by rw [iZ]; omega) HB.out HO.out (Kd.C_kept_came (Kd.heap_int .i64) H3.out HB.out (fun k h => Nat.le_of_lt h)) d3
 go_wp2_with fail
 go_at_call 73
 (with_reducible refine hcall.mono ?_)
 clear hcall z0 z1 z2 z3 z4 z5 z6 z7 z8 z9 y0 y1 y2 y3 y4 y5 y6 y7 y8 y9
 rintro e w3 ⟨v3, rfl, ho, hb, hk⟩
 have HO' := iC.mk (Kd.R_mono (ok' := fun k => w.heap.size < k) ho (fun k h => h.elim id (fun h => Nat.lt_of_lt_of_le (jC HX.out) h)))
 have HX' := iC.mk (lF hk HX.out)
 have HB' := iC.mk hb
 clear ho hb hk HO HX HB
 obtain ⟨HO, HX, HB⟩ : _ ∧ _ ∧ _ := ⟨HO', HX', HB'⟩
 clear HO' HX' HB'
 obtain ⟨Ao, co, rfl⟩ := Kd.R_slice HO.out
 obtain ⟨L3, hL⟩ : ∃ l, l = L2 ++ nums (mO l3) := ⟨_, rfl⟩
 have hn3 : L3.length ≤ 12 := by rw [hL]; simp only [List.length_append, jJ, iL, iZ]; omega
 rw [← hL] at HO ⊢
 have HL3 := iC.mk hL
 clear hL hn2
 obtain ⟨z0, z1, z2, z3, z4, z5, z6, z7, z8, z9, y0, y1, y2, y3, y4, y5, y6, y7, y8, y9⟩ := ten HX.out
 have hcall := IW (fun k => w.heap.size < k) _ L3 A4 c4 l4 w w3 (by omega) HB.out HO.out (Kd.C_kept_came rX H4.out HB.out (fun k h => Nat.le_of_lt h)) d4
 go_wp2_with fail
 go_at_call 74
 (with_reducible refine hcall.mono ?_)
 clear hcall z0 z1 z2 z3 z4 z5 z6 z7 z8 z9 y0 y1 y2 y3 y4 y5 y6 y7 y8 y9
 rintro e w4 ⟨v4, rfl, ho, hb, hk⟩
 have HO' := iC.mk (Kd.R_mono (ok' := fun k => w.heap.size < k) ho (fun k h => h.elim id (fun h => Nat.lt_of_lt_of_le (jC HX.out) h)))
 have HX' := iC.mk (lF hk HX.out)
 have HB' := iC.mk hb
 clear ho hb hk HO HX HB
 obtain ⟨HO, HX, HB⟩ : _ ∧ _ ∧ _ := ⟨HO', HX', HB'⟩
 clear HO' HX' HB'
 obtain ⟨Ao, co, rfl⟩ := Kd.R_slice HO.out
 obtain ⟨L4, hL⟩ : ∃ l, l = L3 ++ nums (kL l4) := ⟨_, rfl⟩
 have hn4 : L4.length ≤ 5016 := by rw [hL]; simp only [List.length_append, jJ, iL]; omega
 rw [← hL] at HO ⊢
 have HL4 := iC.mk hL
 clear hL hn3
 obtain ⟨z0, z1, z2, z3, z4, z5, z6, z7, z8, z9, y0, y1, y2, y3, y4, y5, y6, y7, y8, y9⟩ := ten HX.out
 have HLX := iC.mk (show L4 = nums X from by rw [HL4.out, HL3.out, HL2.out, HL1.out, HXX.out, ja4]; simp only [List.nil_append, nums_append]; rfl)
 by_cases hq : (60000 : Int) < (L4.length : Int)
 ·have HP : iC (r = ([], 3)) := ⟨by rw [HRR.out, if_pos (by rw [HLX.out, jJ] at hq; omega)]⟩
  go_wp2_with fail
  go_ret2
  rw [HP.out]
  exact ⟨_, rfl, Kd.R_nil _ _ _ _ _, HB.out⟩
 ·have HP : iC (r = (nums X, 0)) := ⟨by rw [HRR.out, if_neg (by rw [HLX.out, jJ] at hq; omega)]⟩
  go_wp2_with fail
  go_ret2
  rw [HP.out]
  exact ⟨_, rfl, by rw [← HLX.out]; exact Kd.R_mono HO.out (fun _ _ => trivial), HB.out⟩
set_option maxHeartbeats 8000000 in
set_option maxRecDepth 20000 in
theorem X8 (hs : jQ ⟨2, a1, a2, l3, l4, ⟨a5, l6⟩, a7, a8, l9⟩ = true) : Calls Tryz.prog 44 #[.agg #[.int .u8 2, .int .u32 a1, .int .u32 a2, .slice A3 l3.length c3, .slice A4 l4.length c4, .int .u32 a5, .slice A6 l6.length c6, .int .i64 a7, .int .i64 a8, .slice A9 l9.length c9]] w (pW w (encR ⟨2, a1, a2, l3, l4, ⟨a5, l6⟩, a7, a8, l9⟩)) := by
 have H3 := iC.mk h3; have H4 := iC.mk h4; have H6 := iC.mk h6; have H9 := iC.mk h9
 have hbw : Below w.heap.size w (w.alloc (.cells #[.int .u8 2, .int .u32 a1, .int .u32 a2, .slice A3 l3.length c3, .slice A4 l4.length c4, .int .u32 a5, .slice A6 l6.length c6, .int .i64 a7, .int .i64 a8, .slice A9 l9.length c9] 54)) := iD (Below.refl _ _) _
 have hsnd := mQ 2 a1 a2 A3 c3 l3 A4 c4 l4 a5 A6 c6 l6 a7 a8 A9 c9 l9 (w.alloc (.cells #[.int .u8 2, .int .u32 a1, .int .u32 a2, .slice A3 l3.length c3, .slice A4 l4.length c4, .int .u32 a5, .slice A6 l6.length c6, .int .i64 a7, .int .i64 a8, .slice A9 l9.length c9] 54)) (Kd.C_below h3 hbw) d3 (Kd.C_below h4 hbw) d4 (Kd.C_below h6 hbw) d6 (Kd.C_below h9 hbw) d9
 rw [hs] at hsnd
 have HS := iC.mk hs
 have q3 : l3.length ≤ 6 := by
  have h := HS.out
  rw [XA, Bool.and_eq_true] at h
  exact qG _ h.1
 unfold encR
 rw [if_pos HS.out]
 obtain ⟨X, hX⟩ : ∃ X : List UInt8, X = recE ⟨2, a1, a2, l3, l4, ⟨a5, l6⟩, a7, a8, l9⟩ := ⟨_, rfl⟩
 rw [← hX]
 have HXX := iC.mk hX
 obtain ⟨r, hr⟩ : ∃ r : List Int × Int, r = (if 60000 < X.length then ([], 3) else (nums X, 0)) := ⟨_, rfl⟩
 rw [← hr]
 have HRR := iC.mk hr
 clear hr hs hX hbw h3 h4 h6 h9
 go_enter Tryz.func44, Tryz.ntmps44
 go_wp2_with fail
 go_at_call 71
 (with_reducible refine hsnd.mono ?_)
 clear hsnd
 rintro e w0 ⟨rfl, hb1⟩
 have hB0 : Below w.heap.size w w0 := iF (iD (Below.refl _ _) _) hb1
 have hX0 : w0.heap[w.heap.size]? = some (.cells #[.int .u8 2, .int .u32 a1, .int .u32 a2, .slice A3 l3.length c3, .slice A4 l4.length c4, .int .u32 a5, .slice A6 l6.length c6, .int .i64 a7, .int .i64 a8, .slice A9 l9.length c9] 54 (0, 0)) := iJ hb1 (iO rfl)
 obtain ⟨z0, z1, z2, z3, z4, z5, z6, z7, z8, z9, y0, y1, y2, y3, y4, y5, y6, y7, y8, y9⟩ := ten hX0
 have HO := iC.mk (NW w0 w.heap.size 2 w.heap.size hB0.size (jC hX0))
 have HB := iC.mk (iD hB0 (.cells #[.int .u8 2] 5))
 have HX := iC.mk (jG (o := .cells #[.int .u8 2] 5) hX0)
 have HW1 := iC.mk (show w0.alloc (.cells #[.int .u8 2] 5) = w0.alloc (.cells #[.int .u8 2] 5) from rfl)
 clear hb1 hB0 hX0
 go_upto_region 4 with fail
 clear z0 z1 z2 z3 z4 z5 z6 z7 z8 z9 y0 y1 y2 y3 y4 y5 y6 y7 y8 y9
 obtain ⟨w1, hw1⟩ : ∃ x, x = w0.alloc (.cells #[.int .u8 2] 5) := ⟨_, rfl⟩
 rw [← hw1] at HO HB HX ⊢
 clear HW1
 have HW1 := iC.mk hw1
 clear hw1
 obtain ⟨L1, hL⟩ : ∃ l, l = [(2 : Int)] := ⟨_, rfl⟩
 have hn1 : L1.length ≤ 1 := by rw [hL]; simp
 rw [← hL] at HO
 have HL1 := iC.mk hL
 clear hL
 obtain ⟨z0, z1, z2, z3, z4, z5, z6, z7, z8, z9, y0, y1, y2, y3, y4, y5, y6, y7, y8, y9⟩ := ten HX.out
 have hcall := lQ (fun k => w.heap.size < k) (.slice (some ⟨w0.heap.size, 0, none⟩) 1 1) L1 (a1) (IntKind.u64.wrap a1) 4 4 w w1 (by first | rfl | (rw [wrap_u64]; omega)) rfl (by omega) (by omega) HB.out HO.out
 go_wp2_with fail
 go_at_call 72
 (with_reducible refine hcall.mono ?_)
 clear hcall z0 z1 z2 z3 z4 z5 z6 z7 z8 z9 y0 y1 y2 y3 y4 y5 y6 y7 y8 y9
 rintro e w2 ⟨v2, rfl, ho, hb, hk⟩
 have HO' := iC.mk (Kd.R_mono (ok' := fun k => w.heap.size < k) ho (fun k h => h.elim id (fun h => Nat.lt_of_lt_of_le (jC HX.out) h)))
 have HX' := iC.mk (lF hk HX.out)
 have HB' := iC.mk hb
 clear ho hb hk HO HX HB
 obtain ⟨HO, HX, HB⟩ : _ ∧ _ ∧ _ := ⟨HO', HX', HB'⟩
 clear HO' HX' HB'
 obtain ⟨Ao, co, rfl⟩ := Kd.R_slice HO.out
 obtain ⟨L2, hL⟩ : ∃ l, l = L1 ++ nums (layB a1 4) := ⟨_, rfl⟩
 have hn2 : L2.length ≤ 5 := by rw [hL]; simp only [List.length_append, jJ, iL]; omega
 rw [← hL] at HO ⊢
 have HL2 := iC.mk hL
 clear hL hn1
 obtain ⟨z0, z1, z2, z3, z4, z5, z6, z7, z8, z9, y0, y1, y2, y3, y4, y5, y6, y7, y8, y9⟩ := ten HX.out
 have hcall := lQ (fun k => w.heap.size < k) _ L2 (a2) (IntKind.u64.wrap a2) 4 4 w w2 (by first | rfl | (rw [wrap_u64]; omega)) rfl (by omega) (by omega) HB.out HO.out
 go_wp2_with fail
 go_at_call 72
 (with_reducible refine hcall.mono ?_)
 clear hcall z0 z1 z2 z3 z4 z5 z6 z7 z8 z9 y0 y1 y2 y3 y4 y5 y6 y7 y8 y9
 rintro e w3 ⟨v3, rfl, ho, hb, hk⟩
 have HO' := iC.mk (Kd.R_mono (ok' := fun k => w.heap.size < k) ho (fun k h => h.elim id (fun h => Nat.lt_of_lt_of_le (jC HX.out) h)))
 have HX' := iC.mk (lF hk HX.out)
 have HB' := iC.mk hb
 clear ho hb hk HO HX HB
 obtain ⟨HO, HX, HB⟩ : _ ∧ _ ∧ _ := ⟨HO', HX', HB'⟩
 clear HO' HX' HB'
 obtain ⟨Ao, co, rfl⟩ := Kd.R_slice HO.out
 obtain ⟨L3, hL⟩ : ∃ l, l = L2 ++ nums (layB a2 4) := ⟨_, rfl⟩
 have hn3 : L3.length ≤ 9 := by rw [hL]; simp only [List.length_append, jJ, iL]; omega
 rw [← hL] at HO ⊢
 have HL3 := iC.mk hL
 clear hL hn2
 obtain ⟨z0, z1, z2, z3, z4, z5, z6, z7, z8, z9, y0, y1, y2, y3, y4, y5, y6, y7, y8, y9⟩ := ten HX.out
 have hcall := JD (fun k => w.heap.size < k) _ L3 A3 c3 l3 w w3 (by rw [iZ]; omega) HB.out HO.out (Kd.C_kept_came (Kd.heap_int .i64) H3.out HB.out (fun k h => Nat.le_of_lt h)) d3
 go_wp2_with fail
 go_at_call 73
 (with_reducible refine hcall.mono ?_)
 clear hcall z0 z1 z2 z3 z4 z5 z6 z7 z8 z9 y0 y1 y2 y3 y4 y5 y6 y7 y8 y9
 rintro e w4 ⟨v4, rfl, ho, hb, hk⟩
 have HO' := iC.mk (Kd.R_mono (ok' := fun k => w.heap.size < k) ho (fun k h => h.elim id (fun h => Nat.lt_of_lt_of_le (jC HX.out) h)))
 have HX' := iC.mk (lF hk HX.out)
 have HB' := iC.mk hb
 clear ho hb hk HO HX HB
 obtain ⟨HO, HX, HB⟩ : _ ∧ _ ∧ _ := ⟨HO', HX', HB'⟩
 clear HO' HX' HB'
 obtain ⟨Ao, co, rfl⟩ := Kd.R_slice HO.out
 obtain ⟨L4, hL⟩ : ∃ l, l = L3 ++ nums (mO l3) := ⟨_, rfl⟩
 have hn4 : L4.length ≤ 16 := by rw [hL]; simp only [List.length_append, jJ, iL, iZ]; omega
 rw [← hL] at HO ⊢
 have HL4 := iC.mk hL
 clear hL hn3
 obtain ⟨z0, z1, z2, z3, z4, z5, z6, z7, z8, z9, y0, y1, y2, y3, y4, y5, y6, y7, y8, y9⟩ := ten HX.out
 have HLX := iC.mk (show L4 = nums X from by rw [HL4.out, HL3.out, HL2.out, HL1.out, HXX.out, ja9]; simp only [List.nil_append, nums_append]; rfl)
 by_cases hq : (60000 : Int) < (L4.length : Int)
 ·have HP : iC (r = ([], 3)) := ⟨by rw [HRR.out, if_pos (by rw [HLX.out, jJ] at hq; omega)]⟩
  go_wp2_with fail
  go_ret2
  rw [HP.out]
  exact ⟨_, rfl, Kd.R_nil _ _ _ _ _, HB.out⟩
 ·have HP : iC (r = (nums X, 0)) := ⟨by rw [HRR.out, if_neg (by rw [HLX.out, jJ] at hq; omega)]⟩
  go_wp2_with fail
  go_ret2
  rw [HP.out]
  exact ⟨_, rfl, by rw [← HLX.out]; exact Kd.R_mono HO.out (fun _ _ => trivial), HB.out⟩
set_option maxHeartbeats 8000000 in
set_option maxRecDepth 20000 in
theorem UY (hs : jQ ⟨3, a1, a2, l3, l4, ⟨a5, l6⟩, a7, a8, l9⟩ = true) : Calls Tryz.prog 44 #[.agg #[.int .u8 3, .int .u32 a1, .int .u32 a2, .slice A3 l3.length c3, .slice A4 l4.length c4, .int .u32 a5, .slice A6 l6.length c6, .int .i64 a7, .int .i64 a8, .slice A9 l9.length c9]] w (pW w (encR ⟨3, a1, a2, l3, l4, ⟨a5, l6⟩, a7, a8, l9⟩)) := by
 have H3 := iC.mk h3; have H4 := iC.mk h4; have H6 := iC.mk h6; have H9 := iC.mk h9
 have hbw : Below w.heap.size w (w.alloc (.cells #[.int .u8 3, .int .u32 a1, .int .u32 a2, .slice A3 l3.length c3, .slice A4 l4.length c4, .int .u32 a5, .slice A6 l6.length c6, .int .i64 a7, .int .i64 a8, .slice A9 l9.length c9] 54)) := iD (Below.refl _ _) _
 have hsnd := mQ 3 a1 a2 A3 c3 l3 A4 c4 l4 a5 A6 c6 l6 a7 a8 A9 c9 l9 (w.alloc (.cells #[.int .u8 3, .int .u32 a1, .int .u32 a2, .slice A3 l3.length c3, .slice A4 l4.length c4, .int .u32 a5, .slice A6 l6.length c6, .int .i64 a7, .int .i64 a8, .slice A9 l9.length c9] 54)) (Kd.C_below h3 hbw) d3 (Kd.C_below h4 hbw) d4 (Kd.C_below h6 hbw) d6 (Kd.C_below h9 hbw) d9
 rw [hs] at hsnd
 have HS := iC.mk hs
 unfold encR
 rw [if_pos HS.out]
 obtain ⟨X, hX⟩ : ∃ X : List UInt8, X = recE ⟨3, a1, a2, l3, l4, ⟨a5, l6⟩, a7, a8, l9⟩ := ⟨_, rfl⟩
 rw [← hX]
 have HXX := iC.mk hX
 obtain ⟨r, hr⟩ : ∃ r : List Int × Int, r = (if 60000 < X.length then ([], 3) else (nums X, 0)) := ⟨_, rfl⟩
 rw [← hr]
 have HRR := iC.mk hr
 clear hr hs hX hbw h3 h4 h6 h9
 go_enter Tryz.func44, Tryz.ntmps44
 go_wp2_with fail
 go_at_call 71
 (with_reducible refine hsnd.mono ?_)
 clear hsnd
 rintro e w0 ⟨rfl, hb1⟩
 have hB0 : Below w.heap.size w w0 := iF (iD (Below.refl _ _) _) hb1
 have hX0 : w0.heap[w.heap.size]? = some (.cells #[.int .u8 3, .int .u32 a1, .int .u32 a2, .slice A3 l3.length c3, .slice A4 l4.length c4, .int .u32 a5, .slice A6 l6.length c6, .int .i64 a7, .int .i64 a8, .slice A9 l9.length c9] 54 (0, 0)) := iJ hb1 (iO rfl)
 obtain ⟨z0, z1, z2, z3, z4, z5, z6, z7, z8, z9, y0, y1, y2, y3, y4, y5, y6, y7, y8, y9⟩ := ten hX0
 have HO := iC.mk (NW w0 w.heap.size 3 w.heap.size hB0.size (jC hX0))
 have HB := iC.mk (iD hB0 (.cells #[.int .u8 3] 5))
 have HX := iC.mk (jG (o := .cells #[.int .u8 3] 5) hX0)
 have HW1 := iC.mk (show w0.alloc (.cells #[.int .u8 3] 5) = w0.alloc (.cells #[.int .u8 3] 5) from rfl)
 clear hb1 hB0 hX0
 go_upto_region 4 with fail
 clear z0 z1 z2 z3 z4 z5 z6 z7 z8 z9 y0 y1 y2 y3 y4 y5 y6 y7 y8 y9
 obtain ⟨w1, hw1⟩ : ∃ x, x = w0.alloc (.cells #[.int .u8 3] 5) := ⟨_, rfl⟩
 rw [← hw1] at HO HB HX ⊢
 clear HW1
 have HW1 := iC.mk hw1
 clear hw1
 obtain ⟨L1, hL⟩ : ∃ l, l = [(3 : Int)] := ⟨_, rfl⟩
 have hn1 : L1.length ≤ 1 := by rw [hL]; simp
 rw [← hL] at HO
 have HL1 := iC.mk hL
 clear hL
 obtain ⟨z0, z1, z2, z3, z4, z5, z6, z7, z8, z9, y0, y1, y2, y3, y4, y5, y6, y7, y8, y9⟩ := ten HX.out
 have hcall := lQ (fun k => w.heap.size < k) (.slice (some ⟨w0.heap.size, 0, none⟩) 1 1) L1 (a1) (IntKind.u64.wrap a1) 4 4 w w1 (by first | rfl | (rw [wrap_u64]; omega)) rfl (by omega) (by omega) HB.out HO.out
 go_wp2_with fail
 go_at_call 72
 (with_reducible refine hcall.mono ?_)
 clear hcall z0 z1 z2 z3 z4 z5 z6 z7 z8 z9 y0 y1 y2 y3 y4 y5 y6 y7 y8 y9
 rintro e w2 ⟨v2, rfl, ho, hb, hk⟩
 have HO' := iC.mk (Kd.R_mono (ok' := fun k => w.heap.size < k) ho (fun k h => h.elim id (fun h => Nat.lt_of_lt_of_le (jC HX.out) h)))
 have HX' := iC.mk (lF hk HX.out)
 have HB' := iC.mk hb
 clear ho hb hk HO HX HB
 obtain ⟨HO, HX, HB⟩ : _ ∧ _ ∧ _ := ⟨HO', HX', HB'⟩
 clear HO' HX' HB'
 obtain ⟨Ao, co, rfl⟩ := Kd.R_slice HO.out
 obtain ⟨L2, hL⟩ : ∃ l, l = L1 ++ nums (layB a1 4) := ⟨_, rfl⟩
 have hn2 : L2.length ≤ 5 := by rw [hL]; simp only [List.length_append, jJ, iL]; omega
 rw [← hL] at HO ⊢
 have HL2 := iC.mk hL
 clear hL hn1
 obtain ⟨z0, z1, z2, z3, z4, z5, z6, z7, z8, z9, y0, y1, y2, y3, y4, y5, y6, y7, y8, y9⟩ := ten HX.out
 have HLX := iC.mk (show L2 = nums X from by rw [HL2.out, HL1.out, HXX.out, jd4]; simp only [List.nil_append, nums_append]; rfl)
 have HP : iC (r = (nums X, 0)) := ⟨by rw [HRR.out, if_neg (by have h := congrArg List.length HLX.out; rw [jJ] at h; omega)]⟩
 go_wp2_with fail
 go_ret2
 rw [HP.out]
 exact ⟨_, rfl, by rw [← HLX.out]; exact Kd.R_mono HO.out (fun _ _ => trivial), HB.out⟩
set_option maxHeartbeats 8000000 in
set_option maxRecDepth 20000 in
theorem WC (hs : jQ ⟨4, a1, a2, l3, l4, ⟨a5, l6⟩, a7, a8, l9⟩ = true) : Calls Tryz.prog 44 #[.agg #[.int .u8 4, .int .u32 a1, .int .u32 a2, .slice A3 l3.length c3, .slice A4 l4.length c4, .int .u32 a5, .slice A6 l6.length c6, .int .i64 a7, .int .i64 a8, .slice A9 l9.length c9]] w (pW w (encR ⟨4, a1, a2, l3, l4, ⟨a5, l6⟩, a7, a8, l9⟩)) := by
 have H3 := iC.mk h3; have H4 := iC.mk h4; have H6 := iC.mk h6; have H9 := iC.mk h9
 have hbw : Below w.heap.size w (w.alloc (.cells #[.int .u8 4, .int .u32 a1, .int .u32 a2, .slice A3 l3.length c3, .slice A4 l4.length c4, .int .u32 a5, .slice A6 l6.length c6, .int .i64 a7, .int .i64 a8, .slice A9 l9.length c9] 54)) := iD (Below.refl _ _) _
 have hsnd := mQ 4 a1 a2 A3 c3 l3 A4 c4 l4 a5 A6 c6 l6 a7 a8 A9 c9 l9 (w.alloc (.cells #[.int .u8 4, .int .u32 a1, .int .u32 a2, .slice A3 l3.length c3, .slice A4 l4.length c4, .int .u32 a5, .slice A6 l6.length c6, .int .i64 a7, .int .i64 a8, .slice A9 l9.length c9] 54)) (Kd.C_below h3 hbw) d3 (Kd.C_below h4 hbw) d4 (Kd.C_below h6 hbw) d6 (Kd.C_below h9 hbw) d9
 rw [hs] at hsnd
 have HS := iC.mk hs
 unfold encR
 rw [if_pos HS.out]
 obtain ⟨X, hX⟩ : ∃ X : List UInt8, X = recE ⟨4, a1, a2, l3, l4, ⟨a5, l6⟩, a7, a8, l9⟩ := ⟨_, rfl⟩
 rw [← hX]
 have HXX := iC.mk hX
 obtain ⟨r, hr⟩ : ∃ r : List Int × Int, r = (if 60000 < X.length then ([], 3) else (nums X, 0)) := ⟨_, rfl⟩
 rw [← hr]
 have HRR := iC.mk hr
 clear hr hs hX hbw h3 h4 h6 h9
 go_enter Tryz.func44, Tryz.ntmps44
 go_wp2_with fail
 go_at_call 71
 (with_reducible refine hsnd.mono ?_)
 clear hsnd
 rintro e w0 ⟨rfl, hb1⟩
 have hB0 : Below w.heap.size w w0 := iF (iD (Below.refl _ _) _) hb1
 have hX0 : w0.heap[w.heap.size]? = some (.cells #[.int .u8 4, .int .u32 a1, .int .u32 a2, .slice A3 l3.length c3, .slice A4 l4.length c4, .int .u32 a5, .slice A6 l6.length c6, .int .i64 a7, .int .i64 a8, .slice A9 l9.length c9] 54 (0, 0)) := iJ hb1 (iO rfl)
 obtain ⟨z0, z1, z2, z3, z4, z5, z6, z7, z8, z9, y0, y1, y2, y3, y4, y5, y6, y7, y8, y9⟩ := ten hX0
 have HO := iC.mk (NW w0 w.heap.size 4 w.heap.size hB0.size (jC hX0))
 have HB := iC.mk (iD hB0 (.cells #[.int .u8 4] 5))
 have HX := iC.mk (jG (o := .cells #[.int .u8 4] 5) hX0)
 have HW1 := iC.mk (show w0.alloc (.cells #[.int .u8 4] 5) = w0.alloc (.cells #[.int .u8 4] 5) from rfl)
 clear hb1 hB0 hX0
 go_upto_region 4 with fail
 clear z0 z1 z2 z3 z4 z5 z6 z7 z8 z9 y0 y1 y2 y3 y4 y5 y6 y7 y8 y9
 obtain ⟨w1, hw1⟩ : ∃ x, x = w0.alloc (.cells #[.int .u8 4] 5) := ⟨_, rfl⟩
 rw [← hw1] at HO HB HX ⊢
 clear HW1
 have HW1 := iC.mk hw1
 clear hw1
 obtain ⟨L1, hL⟩ : ∃ l, l = [(4 : Int)] := ⟨_, rfl⟩
 have hn1 : L1.length ≤ 1 := by rw [hL]; simp
 rw [← hL] at HO
 have HL1 := iC.mk hL
 clear hL
 obtain ⟨z0, z1, z2, z3, z4, z5, z6, z7, z8, z9, y0, y1, y2, y3, y4, y5, y6, y7, y8, y9⟩ := ten HX.out
 have hcall := lQ (fun k => w.heap.size < k) (.slice (some ⟨w0.heap.size, 0, none⟩) 1 1) L1 (a1) (IntKind.u64.wrap a1) 4 4 w w1 (by first | rfl | (rw [wrap_u64]; omega)) rfl (by omega) (by omega) HB.out HO.out
 go_wp2_with fail
 go_at_call 72
 (with_reducible refine hcall.mono ?_)
 clear hcall z0 z1 z2 z3 z4 z5 z6 z7 z8 z9 y0 y1 y2 y3 y4 y5 y6 y7 y8 y9
 rintro e w2 ⟨v2, rfl, ho, hb, hk⟩
 have HO' := iC.mk (Kd.R_mono (ok' := fun k => w.heap.size < k) ho (fun k h => h.elim id (fun h => Nat.lt_of_lt_of_le (jC HX.out) h)))
 have HX' := iC.mk (lF hk HX.out)
 have HB' := iC.mk hb
 clear ho hb hk HO HX HB
 obtain ⟨HO, HX, HB⟩ : _ ∧ _ ∧ _ := ⟨HO', HX', HB'⟩
 clear HO' HX' HB'
 obtain ⟨Ao, co, rfl⟩ := Kd.R_slice HO.out
 obtain ⟨L2, hL⟩ : ∃ l, l = L1 ++ nums (layB a1 4) := ⟨_, rfl⟩
 have hn2 : L2.length ≤ 5 := by rw [hL]; simp only [List.length_append, jJ, iL]; omega
 rw [← hL] at HO ⊢
 have HL2 := iC.mk hL
 clear hL hn1
 obtain ⟨z0, z1, z2, z3, z4, z5, z6, z7, z8, z9, y0, y1, y2, y3, y4, y5, y6, y7, y8, y9⟩ := ten HX.out
 have HLX := iC.mk (show L2 = nums X from by rw [HL2.out, HL1.out, HXX.out, jd7]; simp only [List.nil_append, nums_append]; rfl)
 have HP : iC (r = (nums X, 0)) := ⟨by rw [HRR.out, if_neg (by have h := congrArg List.length HLX.out; rw [jJ] at h; omega)]⟩
 go_wp2_with fail
 go_ret2
 rw [HP.out]
 exact ⟨_, rfl, by rw [← HLX.out]; exact Kd.R_mono HO.out (fun _ _ => trivial), HB.out⟩
set_option maxHeartbeats 8000000 in
set_option maxRecDepth 20000 in
theorem WH (hs : jQ ⟨5, a1, a2, l3, l4, ⟨a5, l6⟩, a7, a8, l9⟩ = true) : Calls Tryz.prog 44 #[.agg #[.int .u8 5, .int .u32 a1, .int .u32 a2, .slice A3 l3.length c3, .slice A4 l4.length c4, .int .u32 a5, .slice A6 l6.length c6, .int .i64 a7, .int .i64 a8, .slice A9 l9.length c9]] w (pW w (encR ⟨5, a1, a2, l3, l4, ⟨a5, l6⟩, a7, a8, l9⟩)) := by
 have H3 := iC.mk h3; have H4 := iC.mk h4; have H6 := iC.mk h6; have H9 := iC.mk h9
 have hbw : Below w.heap.size w (w.alloc (.cells #[.int .u8 5, .int .u32 a1, .int .u32 a2, .slice A3 l3.length c3, .slice A4 l4.length c4, .int .u32 a5, .slice A6 l6.length c6, .int .i64 a7, .int .i64 a8, .slice A9 l9.length c9] 54)) := iD (Below.refl _ _) _
 have hsnd := mQ 5 a1 a2 A3 c3 l3 A4 c4 l4 a5 A6 c6 l6 a7 a8 A9 c9 l9 (w.alloc (.cells #[.int .u8 5, .int .u32 a1, .int .u32 a2, .slice A3 l3.length c3, .slice A4 l4.length c4, .int .u32 a5, .slice A6 l6.length c6, .int .i64 a7, .int .i64 a8, .slice A9 l9.length c9] 54)) (Kd.C_below h3 hbw) d3 (Kd.C_below h4 hbw) d4 (Kd.C_below h6 hbw) d6 (Kd.C_below h9 hbw) d9
 rw [hs] at hsnd
 have HS := iC.mk hs
 unfold encR
 rw [if_pos HS.out]
 obtain ⟨X, hX⟩ : ∃ X : List UInt8, X = recE ⟨5, a1, a2, l3, l4, ⟨a5, l6⟩, a7, a8, l9⟩ := ⟨_, rfl⟩
 rw [← hX]
 have HXX := iC.mk hX
 obtain ⟨r, hr⟩ : ∃ r : List Int × Int, r = (if 60000 < X.length then ([], 3) else (nums X, 0)) := ⟨_, rfl⟩
 rw [← hr]
 have HRR := iC.mk hr
 clear hr hs hX hbw h3 h4 h6 h9
 go_enter Tryz.func44, Tryz.ntmps44
 go_wp2_with fail
 go_at_call 71
 (with_reducible refine hsnd.mono ?_)
 clear hsnd
 rintro e w0 ⟨rfl, hb1⟩
 have hB0 : Below w.heap.size w w0 := iF (iD (Below.refl _ _) _) hb1
 have hX0 : w0.heap[w.heap.size]? = some (.cells #[.int .u8 5, .int .u32 a1, .int .u32 a2, .slice A3 l3.length c3, .slice A4 l4.length c4, .int .u32 a5, .slice A6 l6.length c6, .int .i64 a7, .int .i64 a8, .slice A9 l9.length c9] 54 (0, 0)) := iJ hb1 (iO rfl)
 obtain ⟨z0, z1, z2, z3, z4, z5, z6, z7, z8, z9, y0, y1, y2, y3, y4, y5, y6, y7, y8, y9⟩ := ten hX0
 have HO := iC.mk (NW w0 w.heap.size 5 w.heap.size hB0.size (jC hX0))
 have HB := iC.mk (iD hB0 (.cells #[.int .u8 5] 5))
 have HX := iC.mk (jG (o := .cells #[.int .u8 5] 5) hX0)
 have HW1 := iC.mk (show w0.alloc (.cells #[.int .u8 5] 5) = w0.alloc (.cells #[.int .u8 5] 5) from rfl)
 clear hb1 hB0 hX0
 go_upto_region 4 with fail
 clear z0 z1 z2 z3 z4 z5 z6 z7 z8 z9 y0 y1 y2 y3 y4 y5 y6 y7 y8 y9
 obtain ⟨w1, hw1⟩ : ∃ x, x = w0.alloc (.cells #[.int .u8 5] 5) := ⟨_, rfl⟩
 rw [← hw1] at HO HB HX ⊢
 clear HW1
 have HW1 := iC.mk hw1
 clear hw1
 obtain ⟨L1, hL⟩ : ∃ l, l = [(5 : Int)] := ⟨_, rfl⟩
 have hn1 : L1.length ≤ 1 := by rw [hL]; simp
 rw [← hL] at HO
 have HL1 := iC.mk hL
 clear hL
 obtain ⟨z0, z1, z2, z3, z4, z5, z6, z7, z8, z9, y0, y1, y2, y3, y4, y5, y6, y7, y8, y9⟩ := ten HX.out
 have hcall := lQ (fun k => w.heap.size < k) (.slice (some ⟨w0.heap.size, 0, none⟩) 1 1) L1 (a1) (IntKind.u64.wrap a1) 4 4 w w1 (by first | rfl | (rw [wrap_u64]; omega)) rfl (by omega) (by omega) HB.out HO.out
 go_wp2_with fail
 go_at_call 72
 (with_reducible refine hcall.mono ?_)
 clear hcall z0 z1 z2 z3 z4 z5 z6 z7 z8 z9 y0 y1 y2 y3 y4 y5 y6 y7 y8 y9
 rintro e w2 ⟨v2, rfl, ho, hb, hk⟩
 have HO' := iC.mk (Kd.R_mono (ok' := fun k => w.heap.size < k) ho (fun k h => h.elim id (fun h => Nat.lt_of_lt_of_le (jC HX.out) h)))
 have HX' := iC.mk (lF hk HX.out)
 have HB' := iC.mk hb
 clear ho hb hk HO HX HB
 obtain ⟨HO, HX, HB⟩ : _ ∧ _ ∧ _ := ⟨HO', HX', HB'⟩
 clear HO' HX' HB'
 obtain ⟨Ao, co, rfl⟩ := Kd.R_slice HO.out
 obtain ⟨L2, hL⟩ : ∃ l, l = L1 ++ nums (layB a1 4) := ⟨_, rfl⟩
 have hn2 : L2.length ≤ 5 := by rw [hL]; simp only [List.length_append, jJ, iL]; omega
 rw [← hL] at HO ⊢
 have HL2 := iC.mk hL
 clear hL hn1
 obtain ⟨z0, z1, z2, z3, z4, z5, z6, z7, z8, z9, y0, y1, y2, y3, y4, y5, y6, y7, y8, y9⟩ := ten HX.out
 have HLX := iC.mk (show L2 = nums X from by rw [HL2.out, HL1.out, HXX.out, ja1]; simp only [List.nil_append, nums_append]; rfl)
 have HP : iC (r = (nums X, 0)) := ⟨by rw [HRR.out, if_neg (by have h := congrArg List.length HLX.out; rw [jJ] at h; omega)]⟩
 go_wp2_with fail
 go_ret2
 rw [HP.out]
 exact ⟨_, rfl, by rw [← HLX.out]; exact Kd.R_mono HO.out (fun _ _ => trivial), HB.out⟩
set_option maxHeartbeats 8000000 in
set_option maxRecDepth 20000 in
theorem XT (hs : jQ ⟨7, a1, a2, l3, l4, ⟨a5, l6⟩, a7, a8, l9⟩ = true) : Calls Tryz.prog 44 #[.agg #[.int .u8 7, .int .u32 a1, .int .u32 a2, .slice A3 l3.length c3, .slice A4 l4.length c4, .int .u32 a5, .slice A6 l6.length c6, .int .i64 a7, .int .i64 a8, .slice A9 l9.length c9]] w (pW w (encR ⟨7, a1, a2, l3, l4, ⟨a5, l6⟩, a7, a8, l9⟩)) := by
 have H3 := iC.mk h3; have H4 := iC.mk h4; have H6 := iC.mk h6; have H9 := iC.mk h9
 have hbw : Below w.heap.size w (w.alloc (.cells #[.int .u8 7, .int .u32 a1, .int .u32 a2, .slice A3 l3.length c3, .slice A4 l4.length c4, .int .u32 a5, .slice A6 l6.length c6, .int .i64 a7, .int .i64 a8, .slice A9 l9.length c9] 54)) := iD (Below.refl _ _) _
 have hsnd := mQ 7 a1 a2 A3 c3 l3 A4 c4 l4 a5 A6 c6 l6 a7 a8 A9 c9 l9 (w.alloc (.cells #[.int .u8 7, .int .u32 a1, .int .u32 a2, .slice A3 l3.length c3, .slice A4 l4.length c4, .int .u32 a5, .slice A6 l6.length c6, .int .i64 a7, .int .i64 a8, .slice A9 l9.length c9] 54)) (Kd.C_below h3 hbw) d3 (Kd.C_below h4 hbw) d4 (Kd.C_below h6 hbw) d6 (Kd.C_below h9 hbw) d9
 rw [hs] at hsnd
 have HS := iC.mk hs
 have q9 : (jX l9).length ≤ 25040004 := by
  have h := HS.out
  rw [Y2] at h
  simp only [Bool.and_eq_true, decide_eq_true_eq] at h
  exact uT _ h.1.1.1.1.1.1 (by have := h.1.1.1.1.1.2; omega)
 unfold encR
 rw [if_pos HS.out]
 obtain ⟨X, hX⟩ : ∃ X : List UInt8, X = recE ⟨7, a1, a2, l3, l4, ⟨a5, l6⟩, a7, a8, l9⟩ := ⟨_, rfl⟩
 rw [← hX]
 have HXX := iC.mk hX
 obtain ⟨r, hr⟩ : ∃ r : List Int × Int, r = (if 60000 < X.length then ([], 3) else (nums X, 0)) := ⟨_, rfl⟩
 rw [← hr]
 have HRR := iC.mk hr
 clear hr hs hX hbw h3 h4 h6 h9
 go_enter Tryz.func44, Tryz.ntmps44
 go_wp2_with fail
 go_at_call 71
 (with_reducible refine hsnd.mono ?_)
 clear hsnd
 rintro e w0 ⟨rfl, hb1⟩
 have hB0 : Below w.heap.size w w0 := iF (iD (Below.refl _ _) _) hb1
 have hX0 : w0.heap[w.heap.size]? = some (.cells #[.int .u8 7, .int .u32 a1, .int .u32 a2, .slice A3 l3.length c3, .slice A4 l4.length c4, .int .u32 a5, .slice A6 l6.length c6, .int .i64 a7, .int .i64 a8, .slice A9 l9.length c9] 54 (0, 0)) := iJ hb1 (iO rfl)
 obtain ⟨z0, z1, z2, z3, z4, z5, z6, z7, z8, z9, y0, y1, y2, y3, y4, y5, y6, y7, y8, y9⟩ := ten hX0
 have HO := iC.mk (NW w0 w.heap.size 7 w.heap.size hB0.size (jC hX0))
 have HB := iC.mk (iD hB0 (.cells #[.int .u8 7] 5))
 have HX := iC.mk (jG (o := .cells #[.int .u8 7] 5) hX0)
 have HW1 := iC.mk (show w0.alloc (.cells #[.int .u8 7] 5) = w0.alloc (.cells #[.int .u8 7] 5) from rfl)
 clear hb1 hB0 hX0
 go_upto_region 4 with fail
 clear z0 z1 z2 z3 z4 z5 z6 z7 z8 z9 y0 y1 y2 y3 y4 y5 y6 y7 y8 y9
 obtain ⟨w1, hw1⟩ : ∃ x, x = w0.alloc (.cells #[.int .u8 7] 5) := ⟨_, rfl⟩
 rw [← hw1] at HO HB HX ⊢
 clear HW1
 have HW1 := iC.mk hw1
 clear hw1
 obtain ⟨L1, hL⟩ : ∃ l, l = [(7 : Int)] := ⟨_, rfl⟩
 have hn1 : L1.length ≤ 1 := by rw [hL]; simp
 rw [← hL] at HO
 have HL1 := iC.mk hL
 clear hL
 obtain ⟨z0, z1, z2, z3, z4, z5, z6, z7, z8, z9, y0, y1, y2, y3, y4, y5, y6, y7, y8, y9⟩ := ten HX.out
 have hcall := lQ (fun k => w.heap.size < k) (.slice (some ⟨w0.heap.size, 0, none⟩) 1 1) L1 (a1) (IntKind.u64.wrap a1) 4 4 w w1 (by first | rfl | (rw [wrap_u64]; omega)) rfl (by omega) (by omega) HB.out HO.out
 go_wp2_with fail
 go_at_call 72
 (with_reducible refine hcall.mono ?_)
 clear hcall z0 z1 z2 z3 z4 z5 z6 z7 z8 z9 y0 y1 y2 y3 y4 y5 y6 y7 y8 y9
 rintro e w2 ⟨v2, rfl, ho, hb, hk⟩
 have HO' := iC.mk (Kd.R_mono (ok' := fun k => w.heap.size < k) ho (fun k h => h.elim id (fun h => Nat.lt_of_lt_of_le (jC HX.out) h)))
 have HX' := iC.mk (lF hk HX.out)
 have HB' := iC.mk hb
 clear ho hb hk HO HX HB
 obtain ⟨HO, HX, HB⟩ : _ ∧ _ ∧ _ := ⟨HO', HX', HB'⟩
 clear HO' HX' HB'
 obtain ⟨Ao, co, rfl⟩ := Kd.R_slice HO.out
 obtain ⟨L2, hL⟩ : ∃ l, l = L1 ++ nums (layB a1 4) := ⟨_, rfl⟩
 have hn2 : L2.length ≤ 5 := by rw [hL]; simp only [List.length_append, jJ, iL]; omega
 rw [← hL] at HO ⊢
 have HL2 := iC.mk hL
 clear hL hn1
 obtain ⟨z0, z1, z2, z3, z4, z5, z6, z7, z8, z9, y0, y1, y2, y3, y4, y5, y6, y7, y8, y9⟩ := ten HX.out
 have hcall := lQ (fun k => w.heap.size < k) _ L2 (a7) (IntKind.u64.wrap a7) 4 4 w w2 (by first | rfl | (rw [wrap_u64]; omega)) rfl (by omega) (by omega) HB.out HO.out
 go_wp2_with fail
 go_at_call 72
 (with_reducible refine hcall.mono ?_)
 clear hcall z0 z1 z2 z3 z4 z5 z6 z7 z8 z9 y0 y1 y2 y3 y4 y5 y6 y7 y8 y9
 rintro e w3 ⟨v3, rfl, ho, hb, hk⟩
 have HO' := iC.mk (Kd.R_mono (ok' := fun k => w.heap.size < k) ho (fun k h => h.elim id (fun h => Nat.lt_of_lt_of_le (jC HX.out) h)))
 have HX' := iC.mk (lF hk HX.out)
 have HB' := iC.mk hb
 clear ho hb hk HO HX HB
 obtain ⟨HO, HX, HB⟩ : _ ∧ _ ∧ _ := ⟨HO', HX', HB'⟩
 clear HO' HX' HB'
 obtain ⟨Ao, co, rfl⟩ := Kd.R_slice HO.out
 obtain ⟨L3, hL⟩ : ∃ l, l = L2 ++ nums (layB a7 4) := ⟨_, rfl⟩
 have hn3 : L3.length ≤ 9 := by rw [hL]; simp only [List.length_append, jJ, iL]; omega
 rw [← hL] at HO ⊢
 have HL3 := iC.mk hL
 clear hL hn2
 obtain ⟨z0, z1, z2, z3, z4, z5, z6, z7, z8, z9, y0, y1, y2, y3, y4, y5, y6, y7, y8, y9⟩ := ten HX.out
 have hcall := lQ (fun k => w.heap.size < k) _ L3 (a8) (IntKind.u64.wrap a8) 4 4 w w3 (by first | rfl | (rw [wrap_u64]; omega)) rfl (by omega) (by omega) HB.out HO.out
 go_wp2_with fail
 go_at_call 72
 (with_reducible refine hcall.mono ?_)
 clear hcall z0 z1 z2 z3 z4 z5 z6 z7 z8 z9 y0 y1 y2 y3 y4 y5 y6 y7 y8 y9
 rintro e w4 ⟨v4, rfl, ho, hb, hk⟩
 have HO' := iC.mk (Kd.R_mono (ok' := fun k => w.heap.size < k) ho (fun k h => h.elim id (fun h => Nat.lt_of_lt_of_le (jC HX.out) h)))
 have HX' := iC.mk (lF hk HX.out)
 have HB' := iC.mk hb
 clear ho hb hk HO HX HB
 obtain ⟨HO, HX, HB⟩ : _ ∧ _ ∧ _ := ⟨HO', HX', HB'⟩
 clear HO' HX' HB'
 obtain ⟨Ao, co, rfl⟩ := Kd.R_slice HO.out
 obtain ⟨L4, hL⟩ : ∃ l, l = L3 ++ nums (layB a8 4) := ⟨_, rfl⟩
 have hn4 : L4.length ≤ 13 := by rw [hL]; simp only [List.length_append, jJ, iL]; omega
 rw [← hL] at HO ⊢
 have HL4 := iC.mk hL
 clear hL hn3
 obtain ⟨z0, z1, z2, z3, z4, z5, z6, z7, z8, z9, y0, y1, y2, y3, y4, y5, y6, y7, y8, y9⟩ := ten HX.out
 have hcall := yG (fun k => w.heap.size < k) _ L4 A9 c9 l9 w w4 (by omega) HB.out HO.out (fun k h => Nat.le_of_lt h) H9.out d9
 go_wp2_with fail
 go_at_call 75
 (with_reducible refine hcall.mono ?_)
 clear hcall z0 z1 z2 z3 z4 z5 z6 z7 z8 z9 y0 y1 y2 y3 y4 y5 y6 y7 y8 y9
 rintro e w5 ⟨v5, rfl, ho, hb, hk⟩
 have HO' := iC.mk (Kd.R_mono (ok' := fun k => w.heap.size < k) ho (fun k h => h.elim id (fun h => Nat.lt_of_lt_of_le (jC HX.out) h)))
 have HX' := iC.mk (lF hk HX.out)
 have HB' := iC.mk hb
 clear ho hb hk HO HX HB
 obtain ⟨HO, HX, HB⟩ : _ ∧ _ ∧ _ := ⟨HO', HX', HB'⟩
 clear HO' HX' HB'
 obtain ⟨Ao, co, rfl⟩ := Kd.R_slice HO.out
 obtain ⟨L5, hL⟩ : ∃ l, l = L4 ++ nums (jX l9) := ⟨_, rfl⟩
 have hn5 : L5.length ≤ 25040017 := by rw [hL]; simp only [List.length_append, jJ, iL]; omega
 rw [← hL] at HO ⊢
 have HL5 := iC.mk hL
 clear hL hn4
 obtain ⟨z0, z1, z2, z3, z4, z5, z6, z7, z8, z9, y0, y1, y2, y3, y4, y5, y6, y7, y8, y9⟩ := ten HX.out
 have HLX := iC.mk (show L5 = nums X from by rw [HL5.out, HL4.out, HL3.out, HL2.out, HL1.out, HXX.out, jb0]; simp only [List.nil_append, nums_append]; rfl)
 by_cases hq : (60000 : Int) < (L5.length : Int)
 ·have HP : iC (r = ([], 3)) := ⟨by rw [HRR.out, if_pos (by rw [HLX.out, jJ] at hq; omega)]⟩
  go_wp2_with fail
  go_ret2
  rw [HP.out]
  exact ⟨_, rfl, Kd.R_nil _ _ _ _ _, HB.out⟩
 ·have HP : iC (r = (nums X, 0)) := ⟨by rw [HRR.out, if_neg (by rw [HLX.out, jJ] at hq; omega)]⟩
  go_wp2_with fail
  go_ret2
  rw [HP.out]
  exact ⟨_, rfl, by rw [← HLX.out]; exact Kd.R_mono HO.out (fun _ _ => trivial), HB.out⟩
set_option maxHeartbeats 8000000 in
set_option maxRecDepth 20000 in
theorem VR (hs : jQ ⟨6, a1, a2, l3, l4, ⟨a5, l6⟩, a7, a8, l9⟩ = true) : Calls Tryz.prog 44 #[.agg #[.int .u8 6, .int .u32 a1, .int .u32 a2, .slice A3 l3.length c3, .slice A4 l4.length c4, .int .u32 a5, .slice A6 l6.length c6, .int .i64 a7, .int .i64 a8, .slice A9 l9.length c9]] w (pW w (encR ⟨6, a1, a2, l3, l4, ⟨a5, l6⟩, a7, a8, l9⟩)) := by
 have H3 := iC.mk h3; have H4 := iC.mk h4; have H6 := iC.mk h6; have H9 := iC.mk h9
 have hbw : Below w.heap.size w (w.alloc (.cells #[.int .u8 6, .int .u32 a1, .int .u32 a2, .slice A3 l3.length c3, .slice A4 l4.length c4, .int .u32 a5, .slice A6 l6.length c6, .int .i64 a7, .int .i64 a8, .slice A9 l9.length c9] 54)) := iD (Below.refl _ _) _
 have hsnd := mQ 6 a1 a2 A3 c3 l3 A4 c4 l4 a5 A6 c6 l6 a7 a8 A9 c9 l9 (w.alloc (.cells #[.int .u8 6, .int .u32 a1, .int .u32 a2, .slice A3 l3.length c3, .slice A4 l4.length c4, .int .u32 a5, .slice A6 l6.length c6, .int .i64 a7, .int .i64 a8, .slice A9 l9.length c9] 54)) (Kd.C_below h3 hbw) d3 (Kd.C_below h4 hbw) d4 (Kd.C_below h6 hbw) d6 (Kd.C_below h9 hbw) d9
 rw [hs] at hsnd
 have HS := iC.mk hs
 have q6 : l6.length ≤ 40 := by
  have h := HS.out
  rw [VU, Bool.and_eq_true, Bool.and_eq_true, Bool.and_eq_true] at h
  have := of_decide_eq_true h.1.1.2
  omega
 unfold encR
 rw [if_pos HS.out]
 obtain ⟨X, hX⟩ : ∃ X : List UInt8, X = recE ⟨6, a1, a2, l3, l4, ⟨a5, l6⟩, a7, a8, l9⟩ := ⟨_, rfl⟩
 rw [← hX]
 have HXX := iC.mk hX
 obtain ⟨r, hr⟩ : ∃ r : List Int × Int, r = (if 60000 < X.length then ([], 3) else (nums X, 0)) := ⟨_, rfl⟩
 rw [← hr]
 have HRR := iC.mk hr
 clear hr hs hX hbw h3 h4 h6 h9
 go_enter Tryz.func44, Tryz.ntmps44
 go_wp2_with fail
 go_at_call 71
 (with_reducible refine hsnd.mono ?_)
 clear hsnd
 rintro e w0 ⟨rfl, hb1⟩
 have hB0 : Below w.heap.size w w0 := iF (iD (Below.refl _ _) _) hb1
 have hX0 : w0.heap[w.heap.size]? = some (.cells #[.int .u8 6, .int .u32 a1, .int .u32 a2, .slice A3 l3.length c3, .slice A4 l4.length c4, .int .u32 a5, .slice A6 l6.length c6, .int .i64 a7, .int .i64 a8, .slice A9 l9.length c9] 54 (0, 0)) := iJ hb1 (iO rfl)
 obtain ⟨z0, z1, z2, z3, z4, z5, z6, z7, z8, z9, y0, y1, y2, y3, y4, y5, y6, y7, y8, y9⟩ := ten hX0
 have HO := iC.mk (NW w0 w.heap.size 6 w.heap.size hB0.size (jC hX0))
 have HB := iC.mk (iD hB0 (.cells #[.int .u8 6] 5))
 have HX := iC.mk (jG (o := .cells #[.int .u8 6] 5) hX0)
 have HW1 := iC.mk (show w0.alloc (.cells #[.int .u8 6] 5) = w0.alloc (.cells #[.int .u8 6] 5) from rfl)
 clear hb1 hB0 hX0
 go_upto_region 4 with fail
 clear z0 z1 z2 z3 z4 z5 z6 z7 z8 z9 y0 y1 y2 y3 y4 y5 y6 y7 y8 y9
 obtain ⟨w1, hw1⟩ : ∃ x, x = w0.alloc (.cells #[.int .u8 6] 5) := ⟨_, rfl⟩
 rw [← hw1] at HO HB HX ⊢
 clear HW1
 have HW1 := iC.mk hw1
 clear hw1
 obtain ⟨L1, hL⟩ : ∃ l, l = [(6 : Int)] := ⟨_, rfl⟩
 have hn1 : L1.length ≤ 1 := by rw [hL]; simp
 rw [← hL] at HO
 have HL1 := iC.mk hL
 clear hL
 obtain ⟨z0, z1, z2, z3, z4, z5, z6, z7, z8, z9, y0, y1, y2, y3, y4, y5, y6, y7, y8, y9⟩ := ten HX.out
 have hcall := lQ (fun k => w.heap.size < k) (.slice (some ⟨w0.heap.size, 0, none⟩) 1 1) L1 (a1) (IntKind.u64.wrap a1) 4 4 w w1 (by first | rfl | (rw [wrap_u64]; omega)) rfl (by omega) (by omega) HB.out HO.out
 go_wp2_with fail
 go_at_call 72
 (with_reducible refine hcall.mono ?_)
 clear hcall z0 z1 z2 z3 z4 z5 z6 z7 z8 z9 y0 y1 y2 y3 y4 y5 y6 y7 y8 y9
 rintro e w2 ⟨v2, rfl, ho, hb, hk⟩
 have HO' := iC.mk (Kd.R_mono (ok' := fun k => w.heap.size < k) ho (fun k h => h.elim id (fun h => Nat.lt_of_lt_of_le (jC HX.out) h)))
 have HX' := iC.mk (lF hk HX.out)
 have HB' := iC.mk hb
 clear ho hb hk HO HX HB
 obtain ⟨HO, HX, HB⟩ : _ ∧ _ ∧ _ := ⟨HO', HX', HB'⟩
 clear HO' HX' HB'
 obtain ⟨Ao, co, rfl⟩ := Kd.R_slice HO.out
 obtain ⟨L2, hL⟩ : ∃ l, l = L1 ++ nums (layB a1 4) := ⟨_, rfl⟩
 have hn2 : L2.length ≤ 5 := by rw [hL]; simp only [List.length_append, jJ, iL]; omega
 rw [← hL] at HO ⊢
 have HL2 := iC.mk hL
 clear hL hn1
 obtain ⟨z0, z1, z2, z3, z4, z5, z6, z7, z8, z9, y0, y1, y2, y3, y4, y5, y6, y7, y8, y9⟩ := ten HX.out
 have hcall := lQ (fun k => w.heap.size < k) _ L2 (a5) (IntKind.u64.wrap a5) 4 4 w w2 (by first | rfl | (rw [wrap_u64]; omega)) rfl (by omega) (by omega) HB.out HO.out
 go_wp2_with fail
 go_at_call 72
 (with_reducible refine hcall.mono ?_)
 clear hcall z0 z1 z2 z3 z4 z5 z6 z7 z8 z9 y0 y1 y2 y3 y4 y5 y6 y7 y8 y9
 rintro e w3 ⟨v3, rfl, ho, hb, hk⟩
 have HO' := iC.mk (Kd.R_mono (ok' := fun k => w.heap.size < k) ho (fun k h => h.elim id (fun h => Nat.lt_of_lt_of_le (jC HX.out) h)))
 have HX' := iC.mk (lF hk HX.out)
 have HB' := iC.mk hb
 clear ho hb hk HO HX HB
 obtain ⟨HO, HX, HB⟩ : _ ∧ _ ∧ _ := ⟨HO', HX', HB'⟩
 clear HO' HX' HB'
 obtain ⟨Ao, co, rfl⟩ := Kd.R_slice HO.out
 obtain ⟨L3, hL⟩ : ∃ l, l = L2 ++ nums (layB a5 4) := ⟨_, rfl⟩
 have hn3 : L3.length ≤ 9 := by rw [hL]; simp only [List.length_append, jJ, iL]; omega
 rw [← hL] at HO ⊢
 have HL3 := iC.mk hL
 clear hL hn2
 obtain ⟨z0, z1, z2, z3, z4, z5, z6, z7, z8, z9, y0, y1, y2, y3, y4, y5, y6, y7, y8, y9⟩ := ten HX.out
 have hcall := lQ (fun k => w.heap.size < k) _ L3 ((l6.length : Int)) ((l6.length : Int)) 1 1 w w3 (by first | rfl | (rw [wrap_u64]; omega)) rfl (by omega) (by omega) HB.out HO.out
 go_wp2_with fail
 go_at_call 72
 (with_reducible refine hcall.mono ?_)
 clear hcall z0 z1 z2 z3 z4 z5 z6 z7 z8 z9 y0 y1 y2 y3 y4 y5 y6 y7 y8 y9
 rintro e w4 ⟨v4, rfl, ho, hb, hk⟩
 have HO' := iC.mk (Kd.R_mono (ok' := fun k => w.heap.size < k) ho (fun k h => h.elim id (fun h => Nat.lt_of_lt_of_le (jC HX.out) h)))
 have HX' := iC.mk (lF hk HX.out)
 have HB' := iC.mk hb
 clear ho hb hk HO HX HB
 obtain ⟨HO, HX, HB⟩ : _ ∧ _ ∧ _ := ⟨HO', HX', HB'⟩
 clear HO' HX' HB'
 obtain ⟨Ao, co, rfl⟩ := Kd.R_slice HO.out
 obtain ⟨L4, hL⟩ : ∃ l, l = L3 ++ nums (layB (l6.length : Int) 1) := ⟨_, rfl⟩
 have hn4 : L4.length ≤ 10 := by rw [hL]; simp only [List.length_append, jJ, iL]; omega
 rw [← hL] at HO ⊢
 have HL4 := iC.mk hL
 clear hL hn3
 obtain ⟨z0, z1, z2, z3, z4, z5, z6, z7, z8, z9, y0, y1, y2, y3, y4, y5, y6, y7, y8, y9⟩ := ten HX.out
 go_wp2_with fail
 clear z0 z1 z2 z3 z4 z5 z6 z7 z8 z9 y0 y1 y2 y3 y4 y5 y6 y7 y8 y9
 go_loopg [4, 5] l6.length (fun gg s4 s5 wr => ∃ k : Nat, k ≤ l6.length ∧ l6.length - k ≤ gg ∧ s5 = .int .i64 k ∧ iC (Kd.R (Kd.int .u8) 5 wr w.heap.size (fun k => w.heap.size < k) s4 (L4 ++ nums ((l6.take k).flatMap nP))) ∧ iC (Below w.heap.size w wr) ∧ iC (wr.heap[w.heap.size]? = some (.cells #[.int .u8 6, .int .u32 a1, .int .u32 a2, .slice A3 l3.length c3, .slice A4 l4.length c4, .int .u32 a5, .slice A6 l6.length c6, .int .i64 a7, .int .i64 a8, .slice A9 l9.length c9] 54 (0, 0))))
 case atStart => exact ⟨0, Nat.zero_le _, by omega, rfl, ⟨by simpa [nums] using HO.out⟩, HB, HX⟩
 case round =>
  clear HO HB HX
  obtain ⟨k, hk, hg, rfl, HO, HB, HX⟩ := hrel
  obtain ⟨Ao, co, rfl⟩ := Kd.R_slice HO.out
  by_cases hlt : k < l6.length
  ·have HT := iC.mk (kN nP z122 l6 k hlt)
   obtain ⟨w5, rfl⟩ : ∃ x : World, x = wr := ⟨_, rfl⟩
   obtain ⟨L5, hL⟩ : ∃ L, L = L4 ++ nums ((l6.take k).flatMap nP) := ⟨_, rfl⟩
   have hn5 : L5.length ≤ 210 := by rw [hL]; have h1 := pI nP l6 k; rw [xN l6] at h1; simp only [List.length_append, jJ]; omega
   rw [← hL] at HO ⊢
   have HL5 := iC.mk hL
   clear hL
   obtain ⟨ad, eA, gx0, gx1⟩ := lI H6.out k (by omega) (by omega)
   cases eA
   simp only [Int.toNat_natCast] at gx0 gx1
   have hx0 := kC HB.out gx0
   have hx1 := kC HB.out gx1
   have HG := iC.mk (And.intro gx0 gx1)
   clear gx0 gx1
   have HSP := iC.mk (show jM l6 k = l6.getD k z122 from by unfold jM; rw [Int.toNat_natCast])
   generalize jM l6 k = sp at HSP hx0 hx1 HG ⊢
   obtain ⟨z0, z1, z2, z3, z4, z5, z6, z7, z8, z9, y0, y1, y2, y3, y4, y5, y6, y7, y8, y9⟩ := ten HX.out
   have hcall := lQ (fun k => w.heap.size < k) _ L5 (sp.f0) (IntKind.u64.wrap sp.f0) 4 4 w w5 (by first | rfl | (rw [wrap_u64]; omega)) rfl (by omega) (by omega) HB.out HO.out
   go_wp2_with fail
   go_at_call 72
   (with_reducible refine hcall.mono ?_)
   clear hcall z0 z1 z2 z3 z4 z5 z6 z7 z8 z9 y0 y1 y2 y3 y4 y5 y6 y7 y8 y9
   rintro e w6 ⟨v6, rfl, ho, hb, hk⟩
   have HO' := iC.mk (Kd.R_mono (ok' := fun k => w.heap.size < k) ho (fun k h => h.elim id (fun h => Nat.lt_of_lt_of_le (jC HX.out) h)))
   have HX' := iC.mk (lF hk HX.out)
   have HB' := iC.mk hb
   clear ho hb hk HO HX HB
   obtain ⟨HO, HX, HB⟩ : _ ∧ _ ∧ _ := ⟨HO', HX', HB'⟩
   clear HO' HX' HB'
   obtain ⟨Ao, co, rfl⟩ := Kd.R_slice HO.out
   obtain ⟨L6, hL⟩ : ∃ l, l = L5 ++ nums (layB sp.f0 4) := ⟨_, rfl⟩
   have hn6 : L6.length ≤ 214 := by rw [hL]; simp only [List.length_append, jJ, iL]; omega
   rw [← hL] at HO ⊢
   have HL6 := iC.mk hL
   clear hL hn5
   clear hx0 hx1
   have hx0 := kC HB.out HG.out.1
   have hx1 := kC HB.out HG.out.2
   obtain ⟨z0, z1, z2, z3, z4, z5, z6, z7, z8, z9, y0, y1, y2, y3, y4, y5, y6, y7, y8, y9⟩ := ten HX.out
   have hcall := lQ (fun k => w.heap.size < k) _ L6 (sp.f1) (IntKind.u64.wrap sp.f1) 1 1 w w6 (by first | rfl | (rw [wrap_u64]; omega)) rfl (by omega) (by omega) HB.out HO.out
   go_wp2_with fail
   go_at_call 72
   (with_reducible refine hcall.mono ?_)
   clear hcall z0 z1 z2 z3 z4 z5 z6 z7 z8 z9 y0 y1 y2 y3 y4 y5 y6 y7 y8 y9
   rintro e w7 ⟨v7, rfl, ho, hb, hk⟩
   have HO' := iC.mk (Kd.R_mono (ok' := fun k => w.heap.size < k) ho (fun k h => h.elim id (fun h => Nat.lt_of_lt_of_le (jC HX.out) h)))
   have HX' := iC.mk (lF hk HX.out)
   have HB' := iC.mk hb
   clear ho hb hk HO HX HB
   obtain ⟨HO, HX, HB⟩ : _ ∧ _ ∧ _ := ⟨HO', HX', HB'⟩
   clear HO' HX' HB'
   obtain ⟨Ao, co, rfl⟩ := Kd.R_slice HO.out
   obtain ⟨L7, hL⟩ : ∃ l, l = L6 ++ nums (layB sp.f1 1) := ⟨_, rfl⟩
   have hn7 : L7.length ≤ 215 := by rw [hL]; simp only [List.length_append, jJ, iL]; omega
   rw [← hL] at HO ⊢
   have HL7 := iC.mk hL
   clear hL hn6
   clear hx0 hx1
   have HE := iC.mk (show L7 = L4 ++ nums ((l6.take (k + 1)).flatMap nP) from by rw [HT.out, ← HSP.out, HL7.out, HL6.out, HL5.out]; unfold nP; simp only [nums_append, List.append_assoc])
   go_wp2_with fail
   go_roundg (l6.length - (k + 1))
   case measure => omega
   case rel => exact ⟨k + 1, by omega, by omega, by go_num, ⟨by rw [← HE.out]; exact HO.out⟩, HB, HX⟩
  ·have : k = l6.length := by omega
   subst this
   obtain ⟨w5, rfl⟩ : ∃ x : World, x = wr := ⟨_, rfl⟩
   obtain ⟨L5, hL⟩ : ∃ L, L = L4 ++ nums (l6.flatMap nP) := ⟨_, rfl⟩
   rw [List.take_length] at HO ⊢
   rw [← hL] at HO ⊢
   have HL5 := iC.mk hL
   clear hL
   obtain ⟨z0, z1, z2, z3, z4, z5, z6, z7, z8, z9, y0, y1, y2, y3, y4, y5, y6, y7, y8, y9⟩ := ten HX.out
   have HLX := iC.mk (show L5 = nums X from by rw [HL5.out, HL4.out, HL3.out, HL2.out, HL1.out, HXX.out, jc8]; simp only [List.nil_append, nums_append]; rfl)
   by_cases hq : (60000 : Int) < (L5.length : Int)
   ·have HP : iC (r = ([], 3)) := ⟨by rw [HRR.out, if_pos (by rw [HLX.out, jJ] at hq; omega)]⟩
    go_wp2_with fail
    go_ret2
    rw [HP.out]
    exact ⟨_, rfl, Kd.R_nil _ _ _ _ _, HB.out⟩
   ·have HP : iC (r = (nums X, 0)) := ⟨by rw [HRR.out, if_neg (by rw [HLX.out, jJ] at hq; omega)]⟩
    go_wp2_with fail
    go_ret2
    rw [HP.out]
    exact ⟨_, rfl, by rw [← HLX.out]; exact Kd.R_mono HO.out (fun _ _ => trivial), HB.out⟩
end
end Go.Proofs.YtgfkgppomaapiaaGreatDoor.K
end

section
namespace Go.Proofs.YtgfkgppomaapiaaGreatDoor.K
open RowKit YtgfkgppomaapiaaGreatDoorW.PrintWords YtgfkgppomaapiaaGreatDoorW.PrintLast YtgfkgppomaapiaaGreatDoorW.PrintMore My
def encS (s : kD) : List Value := [.int .i64 s.f0, .int .i64 s.f1]
theorem O6 {α β : Type} (f : α → β) (z u : β) (done : List α) (n k : Nat) (x : α) (hu : u = f x) (hd : done.length = k) (hk : k < n) : (done.map f ++ List.replicate (n - k) z).set k u = (done ++ [x]).map f ++ List.replicate (n - (k + 1)) z := by
 subst hu
 rw [OQ z (f x) (done.map f) n k (by rw [List.length_map]; exact hd) hk, List.map_append]
 rfl
theorem O5 {r : List UInt8} (h : intP 4 r = none) : rE r = none := by unfold rE; rw [h]; rfl
theorem PZ {r r1 : List UInt8} {x : Int} (h : intP 4 r = some (x, r1)) (h1 : intP 1 r1 = none) : rE r = none := by unfold rE; rw [h]; simp only [Option.bind_some]; rw [h1]; rfl
theorem RU {r r1 r2 : List UInt8} {x y : Int} (h : intP 4 r = some (x, r1)) (h1 : intP 1 r1 = some (y, r2)) : rE r = some (⟨x, y⟩, r2) := by unfold rE; rw [h]; simp only [Option.bind_some]; rw [h1]; rfl
set_option maxRecDepth 20000 in
set_option maxHeartbeats 4000000 in
theorem II (g : Nat) (l : List UInt8) (w0 w : World) (h : Rd w0 w g l) (hb : Below w0.heap.size w0 w) (hg : w0.heap.size ≤ g) (hm : (l.length : Int) ≤ 100000) :
  Calls Tryz.prog 117 #[.pointer (some ⟨g, 0, none⟩)] w (PP (pU l) (fun xs v w' => Kd.R k122 122 w' w.heap.size (fun _ => True) v xs) w0 w g) := by
 have HR := iC.mk h
 have HB := iC.mk hb
 have hlt := h.lt
 clear h hb
 cases hmy : many 1 5 l with
 | none =>
  have hn : pU l = none := by unfold pU; rw [hmy]; rfl
  have hcall := qI 1 5 1 5 rfl rfl (by omega) (by omega) g l w0 w HR.out HB.out hg hmy
  have HN := iC.mk hn
  clear hmy hn
  go_enter Tryz.func117, Tryz.ntmps117
  go_wp2_with (go_at_call 122; refine hcall.mono ?_; rintro e w1 ⟨rfl, hG⟩)
  exact ⟨rfl, hG, .inr ⟨HN.out, rfl⟩⟩
 | some x =>
  obtain ⟨n, r0⟩ := x
  have hn : pU l = repP rE n r0 := by unfold pU; rw [hmy]; rfl
  have hcall := zD 1 5 1 5 rfl rfl (by omega) (by omega) g l r0 n w0 w HR.out HB.out hg hmy
  have HN := iC.mk hn
  obtain ⟨hl1, hl2⟩ := mJ hmy (by omega)
  have hn1 : (n : Int) ≤ 100000 := by omega
  have hmk := vS (t := 49) (e := 122) Tryz.underlying49 ja3 (by omega) n hn1
  clear hmy hn hl1 hl2
  go_enter Tryz.func117, Tryz.ntmps117
  go_wp2_with (go_at_call 122; refine hcall.mono ?_; rintro e w1 ⟨rfl, hR, hG, hle⟩; clear hle; have HR1 := iC.mk hR; have HG1 := iC.mk hG; clear hR hG)
  have HO := iC.mk (V8 (e := 122) (W := w1) (n := n) (base := w.heap.size) (x := .int .i64 0) (y := .int .i64 0) rfl rfl (by omega) HG1.out.size)
  have HG := iC.mk (iU HG1.out (grown_below (iD (Below.refl _ _) (.cells (madeCells #[.int .i64 0, .int .i64 0] (n * 2)) 122))))
  have HR2 := iC.mk (Rd.grown HR1.out (grown_below (row := none) (iD (Below.refl _ _) (.cells (madeCells #[.int .i64 0, .int .i64 0] (n * 2)) 122))) (by simp))
  clear HR1 HG1 hcall hmk
  obtain ⟨ad, had⟩ : ∃ ad : Addr, ad = ⟨w1.heap.size, 0, none⟩ := ⟨_, rfl⟩
  rw [← had] at HO ⊢
  obtain ⟨W2, hW⟩ : ∃ W2, W2 = w1.alloc (.cells (madeCells #[.int .i64 0, .int .i64 0] (n * 2)) 122) := ⟨_, rfl⟩
  rw [← hW] at HO HG HR2
  first | rw [← hW] | (rw [show w1.alloc (.cells (madeCells (Value.agg #[.int .i64 0, .int .i64 0]).cells (n * 2)) 122) = W2 from hW.symm])
  clear hW had
  go_loopw [10] (fun i wr => ∃ (k : Nat) (done : List kD) (r : List UInt8), k ≤ n ∧ i = .int .i64 k ∧ iC (Left rE n k r0 r done) ∧ iC (Rd w0 wr g r) ∧ iC (RW 122 wr w.heap.size (.slice (some ad) n n) (done.map encS ++ List.replicate (n - k) [.int .i64 0, .int .i64 0])) ∧ iC (w.grownBy wr (some g))) (fun i _ => n - (intOf i).toNat)
  case atStart => exact ⟨0, [], r0, Nat.zero_le _, rfl, ⟨Left.start _ _ _⟩, HR2, HO, HG⟩
  case round =>
   obtain ⟨k, done, r, hk, rfl, HL, HRd, HOk, HGk⟩ := hrel
   clear HR2 HO HG
   by_cases hkn : k < n
   ·cases hp : intP 4 r with
    | none =>
     have hcall := kF 4 4 rfl g r w0 wr HRd.out (lS hp)
     have HF := iC.mk (Left.fail HL.out hkn (O5 hp))
     clear hp
     go_wp2_with (go_at_call 114; refine hcall.mono ?_; rintro e w2 ⟨rfl, hG⟩)
     exact ⟨rfl, iU HGk.out hG, .inr ⟨by rw [HN.out]; exact HF.out, rfl⟩⟩
    | some x =>
     obtain ⟨x, r1⟩ := x
     obtain ⟨hs1, hx, hr1⟩ := nR hp
     have hcall := nX 4 4 rfl (by omega) g r w0 wr HRd.out (below_grown HB.out HGk.out hg (Nat.le_refl _)) hs1
     have hsm := nS r 4 (by omega)
     rw [← hr1] at hcall
     obtain ⟨m, hm1⟩ : ∃ m, m = numB (r.take 4) := ⟨_, rfl⟩
     rw [← hm1] at hcall hsm hx
     subst hx
     clear hr1 hm1 hs1
     cases hp1 : intP 1 r1 with
     | none =>
      have HF := iC.mk (Left.fail HL.out hkn (PZ hp hp1))
      have HP1 := iC.mk hp1
      clear hp hp1
      go_wp2_with fail
      refine hcall.mono ?_
      rintro e w2 ⟨rfl, hR, hG⟩
      obtain ⟨x0, y0, hrow, z0, z1, f0, f1, hbs, hbl, hset0, _⟩ := JW (jS HOk.out hG hlt) k hkn
      obtain ⟨hs0, hg0⟩ := hset0 (.int .i64 (m : Int)) rfl
      have HGR := iC.mk (kE (iU HGk.out hG) hg0 hbs)
      have HRR := iC.mk (Rd.grown hR hg0 (by (intro e; injection e with e; omega)))
      clear hset0 hs0 hg0 hR hG hrow z1 f1 hcall
      go_wp2_with fail
      refine (kF 1 1 rfl g r1 w0 _ HRR.out (lS HP1.out)).mono ?_
      rintro e w3 ⟨rfl, hG⟩
      go_wp2
      exact ⟨rfl, iU HGR.out hG, .inr ⟨by rw [HN.out]; exact HF.out, rfl⟩⟩
     | some y =>
      obtain ⟨y, r2⟩ := y
      have HN1 := iC.mk (Left.next HL.out hkn (RU hp hp1))
      obtain ⟨hs2, hy, hr2⟩ := nR hp1
      have hsm2 := nS r1 1 (by omega)
      obtain ⟨m2, hm2⟩ : ∃ m2, m2 = numB (r1.take 1) := ⟨_, rfl⟩
      rw [← hm2] at hsm2 hy
      subst hy
      clear hp hp1
      go_wp2_with fail
      refine hcall.mono ?_
      rintro e w2 ⟨rfl, hR, hG⟩
      obtain ⟨x0, y0, hrow, z0, z1, f0, f1, hbs, hbl, hset0, _⟩ := JW (jS HOk.out hG hlt) k hkn
      obtain ⟨hs0, hg0⟩ := hset0 (.int .i64 (m : Int)) rfl
      have HGR := iC.mk (kE (iU HGk.out hG) hg0 hbs)
      have HRR := iC.mk (Rd.grown hR hg0 (by (intro e; injection e with e; omega)))
      have HS0 := iC.mk hs0
      clear hset0 hs0 hg0 hR hG hrow z1 f1 hcall
      go_wp2_with fail
      have hcall := nX 1 1 rfl (by omega) g r1 w0 _ HRR.out (below_grown HB.out HGR.out hg (Nat.le_refl _)) hs2
      rw [← hr2, ← hm2] at hcall
      refine hcall.mono ?_
      rintro e w3 ⟨rfl, hR, hG⟩
      obtain ⟨x1, y1, hrow, z0', z1, f0', f1, hbs1, hbl1, _, hset1⟩ := JW (jS HS0.out hG hlt) k hkn
      obtain ⟨hs1, hg1⟩ := hset1 (.int .i64 (m2 : Int)) rfl
      have hkl : k < (done.map encS ++ List.replicate (n - k) [Value.int .i64 0, .int .i64 0]).length := by rw [List.length_append, List.length_map, List.length_replicate, HL.out.1]; omega
      rw [List.getD_eq_getElem?_getD, List.getElem?_set_self hkl] at hrow
      have hx1 : x1 = .int .i64 (m : Int) := by injection hrow with hx _; exact hx.symm
      subst hx1
      rw [List.set_set] at hs1
      have HS1 := iC.mk hs1
      have HGR2 := iC.mk (kE (iU HGR.out hG) hg1 hbs1)
      have HRR2 := iC.mk (Rd.grown hR hg1 (by (intro e; injection e with e; omega)))
      clear hset1 hs1 hg1 hR hG hrow hcall z0 f0 z0' f0' hr2 hm2 hs2 hkl HS0 HGR HRR
      go_wp2
      go_roundw
      case rel => exact ⟨k + 1, done ++ [⟨(m : Int), (m2 : Int)⟩], r2, by omega, by go_num, HN1, HRR2, ⟨by rw [← O6 encS _ [.int .i64 (m : Int), .int .i64 (m2 : Int)] done n k ⟨(m : Int), (m2 : Int)⟩ rfl HL.out.1 hkn]; exact HS1.out⟩, HGR2⟩
      case measure => simp [intOf]; omega
   ·obtain rfl : k = n := by omega
    go_wp2
    go_ret
    have hd := HOk.out
    rw [Nat.sub_self, List.replicate_zero, List.append_nil] at hd
    refine ⟨HGk.out, .inl ⟨done, r, _, by rw [HN.out]; exact Left.done HL.out, rfl, ?_, HRd.out⟩⟩
    refine JR rfl hd (by rw [List.length_map]) (fun _ _ => trivial) (fun j p c hj hc => ?_)
    rw [List.getElem?_map, hj] at hc
    injection hc with hc
    subst hc
    exact QI _ _ _ _
end Go.Proofs.YtgfkgppomaapiaaGreatDoor.K
end

section
namespace Go.Proofs.YtgfkgppomaapiaaGreatDoor.My
open Go Go.RowKit Go.Proofs.YtgfkgppomaapiaaGreatDoorW.PrintWords Go.Proofs.YtgfkgppomaapiaaGreatDoorW.PrintLast
def entries (D : List Tmp) (vs : Nat → Value) : List (Nat × Tmp × Value) := (List.range D.length).map fun i => (i, D.getD i 0, vs i)
theorem kV {D : List Tmp} {vs : Nat → Value} {i : Nat} (h : i < D.length) : (entries D vs)[i]? = some (i, D.getD i 0, vs i) := by
 unfold entries
 rw [List.getElem?_map, List.getElem?_range h]
 rfl
theorem l7 (D : List Tmp) (vs : Nat → Value) : (entries D vs).length = D.length := by simp [entries]
theorem zU {D : List Tmp} {vs : Nat → Value} {i : Nat} (v : Value) : (entries D vs).set i (i, D.getD i 0, v) = entries D (fun j => if j = i then v else vs j) := by
 apply List.ext_getElem?
 intro j
 by_cases hj : j < D.length
 ·by_cases hij : i = j
  ·subst hij
   rw [List.getElem?_set_self (by rw [l7]; exact hj), kV hj, if_pos rfl]
  ·rw [List.getElem?_set_ne hij, kV hj, kV hj, if_neg (Ne.symm hij)]
 ·rw [List.getElem?_eq_none (by simp [l7]; omega), List.getElem?_eq_none (by rw [l7]; omega)]
def vM (D : List Tmp) : Bool := decide D.Nodup
theorem U2 {D : List Tmp} (h : D.Nodup) {i j : Nat} (hi : i < D.length) (hj : j < D.length) (e : D.getD i 0 = D.getD j 0) : i = j := by
 rw [List.getD_eq_getElem?_getD, List.getD_eq_getElem?_getD, List.getElem?_eq_getElem hi, List.getElem?_eq_getElem hj] at e
 simp only [Option.getD_some] at e
 have hp := List.pairwise_iff_getElem.1 h
 rcases Nat.lt_trichotomy i j with hij | hij | hij
 ·exact absurd e (hp i j hi hj hij)
 ·exact hij
 ·exact absurd e.symm (hp j i hj hi hij)
theorem rC {b b' : Nat → Bool} : ∀ {L : List (Nat × Tmp × Value)} {a : Act}, (∀ e ∈ L, b e.1 = b' e.1) → jV a b L = jV a b' L
 | [], _, _ => rfl
 | e :: L, a, h => by
  unfold jV
  rw [h e List.mem_cons_self]
  exact rC (fun x hx => h x (List.mem_cons_of_mem _ hx))
theorem oN {D : List Tmp} {vs : Nat → Value} {i : Nat} (hD : vM D = true) (hi : i < D.length) :
  (((entries D vs).take i ++ (entries D vs).drop (i + 1)).all fun e => !(e.1 == i) && !(e.2.1 == D.getD i 0)) = true := by
 have hnd : D.Nodup := of_decide_eq_true hD
 rw [List.all_eq_true]
 intro e he
 obtain ⟨j, hj, hne⟩ : ∃ j, (entries D vs)[j]? = some e ∧ j ≠ i := by
  rcases List.mem_append.1 he with h | h
  ·obtain ⟨j, hj⟩ := List.getElem?_of_mem h
   rw [List.getElem?_take] at hj
   split at hj
   ·exact ⟨j, hj, by omega⟩
   ·cases hj
  ·obtain ⟨j, hj⟩ := List.getElem?_of_mem h
   rw [List.getElem?_drop] at hj
   exact ⟨_, hj, by omega⟩
 have hjl : j < D.length := by have := (List.getElem?_eq_some_iff.1 hj).1; rwa [l7] at this
 rw [kV hjl] at hj
 simp only [Option.some.injEq] at hj
 subst hj
 simp only [Bool.and_eq_true, Bool.not_eq_true', beq_eq_false_iff_ne]
 exact ⟨hne, fun e => hne (U2 hnd hjl hi e)⟩
section
variable {P : Program} {ops : Array Oper} {Q : Exit → Act → World → Prop} {T : Bool × List (List Nat × List Nat)} {B : List Nat}
def rZ (P : Program) (ops : Array Oper) (Q : Exit → Act → World → Prop) (B : List Nat) (D : List Tmp) (R : Nat → Value → World → Prop) (a0 : Act) (w0 : World) (i : Nat) : Prop :=
 ∀ (a : Act) (w : World) (vs : Nat → Value), Below w0.heap.size w0 w → (∀ s, D.contains s = false → a.tmps[s]? = a0.tmps[s]?) →
  (∀ j, (B.getD i 0).testBit j = true → a.tmps[D.getD j 0]? = some (vs j) ∧ R j (vs j) w) →
  ∃ oi, ops[i]? = some oi ∧ oi.dst = some (D.getD i 0) ∧ ∀ K : Act → World → Prop, (∀ v w', R i v w' → Below w.heap.size w w' → K (a.put (some (D.getD i 0)) v) w') →
   if Region.wanted oi (yielded ops a.tmps) = true then Oper.wp P oi a w K Q else K (a.put (some (D.getD i 0)) undef) w
theorem oG {D : List Tmp} {R : Nat → Value → World → Prop} {a0 : Act} {w0 : World} : ∀ i ∈ ([] : List Nat), rZ P ops Q B D R a0 w0 i := fun _ h => by cases h
theorem iI {D : List Tmp} {R : Nat → Value → World → Prop} {a0 : Act} {w0 : World} {i : Nat} {rs : List Nat} (h : rZ P ops Q B D R a0 w0 i) (hs : ∀ j ∈ rs, rZ P ops Q B D R a0 w0 j) : ∀ j ∈ i :: rs, rZ P ops Q B D R a0 w0 j := fun j hj => by
 rcases List.mem_cons.1 hj with rfl | hj
 ·exact h
 ·exact hs j hj
def Rm (r : Value → World → Prop) : Prop := ∀ v w w', r v w → Below w.heap.size w w' → r v w'
theorem jO (t : Value) : Rm (fun v _ => v = t) := fun _ _ _ h _ => h
def RLit (n : Nat) (cells : Array Value) (E : Nat) : Value → World → Prop := fun v w => ∃ b, v = .slice (some ⟨b, 0, none⟩) n n ∧ w.heap[b]? = some (.cells cells E (0, 0))
theorem jh2 (n : Nat) (cells : Array Value) (E : Nat) : Rm (RLit n cells E) := fun _ _ _ ⟨b, h1, h2⟩ hb => ⟨b, h1, iJ hb h2⟩
theorem uV : ∀ r ∈ ([] : List (Value → World → Prop)), Rm r := fun _ h => by cases h
theorem iP {r : Value → World → Prop} {rs : List (Value → World → Prop)} (h : Rm r) (hs : ∀ r ∈ rs, Rm r) : ∀ x ∈ r :: rs, Rm x := fun x hx => by
 rcases List.mem_cons.1 hx with rfl | hx
 ·exact h
 ·exact hs x hx
def RR (Rs : List (Value → World → Prop)) : Nat → Value → World → Prop := fun i => Rs.getD i (fun _ _ => True)
theorem jb7 {Rs : List (Value → World → Prop)} (h : ∀ r ∈ Rs, Rm r) : ∀ i v w w', RR Rs i v w → Below w.heap.size w w' → RR Rs i v w' := by
 intro i v w w' hr hb
 unfold RR at *
 rcases Nat.lt_or_ge i Rs.length with hl | hl
 ·have e : Rs.getD i (fun _ _ => True) = Rs[i] := by rw [List.getD_eq_getElem?_getD, List.getElem?_eq_getElem hl]; rfl
  rw [e] at hr ⊢
  exact h _ (List.getElem_mem hl) v w w' hr hb
 ·rw [List.getD_eq_getElem?_getD, List.getElem?_eq_none hl]
  trivial
theorem OT {id : Nat} {a0 : Act} {w0 : World} (D : List Tmp) (R : Nat → Value → World → Prop) (hm : P.follows .mixedOrders = true)
  (hT : rtab .any ops = T) (hw : nV T.2 B = true) (hk : qK T.2 (List.range ops.size) = true) (hD : vM D = true) (hDn : D.length = ops.size)
  (hin : (D.all fun t => Nat.ble (t + 1) a0.tmps.size) = true) (hBn : ((List.range ops.size).all fun i => Nat.ble (B.getD i 0) (2 ^ ops.size - 1)) = true)
  (hmono : ∀ i v w w', R i v w → Below w.heap.size w w' → R i v w')
  (hs : ∀ i ∈ List.range ops.size, rZ P ops Q B D R a0 w0 i)
  (hend : ∀ (vs : Nat → Value) (w : World), Below w0.heap.size w0 w → (∀ i, i < ops.size → R i (vs i) w) → Q .normal (jV a0 (fun _ => true) (entries D vs)) w) :
  (Code.region id ops true).wp P Q a0 w0 := by
 have hTl : T.2.length = ops.size := by rw [← hT, o8]
 refine vP (n := ops.size) (S := fun _ => True) (ds := []) (Array.replicate ops.size false) hm rfl rfl trivial (fun _ => ?_)
 refine inv_ (T := T) (B := B) (List.range ops.size) (fun b a w => ∃ vs : Nat → Value, a = jV a0 b (entries D vs) ∧ (∀ i, i < ops.size → b i = true → R i (vs i) w) ∧ Below w0.heap.size w0 w) hT hw hk ?_ ?_ ?_ ?_
 ·simp only [Bool.and_eq_true, beq_iff_eq, List.length_range, and_true]
  rw [hTl]
  apply List.ext_getElem
  ·simp [lof]
  ·intro i h1 h2
   simp [lof] at h1 ⊢
   exact h1
 ·refine ⟨fun _ => undef, ?_, (fun _ _ h => by cases h), iW (Below.refl _ _)⟩
  have : ∀ (L : List (Nat × Tmp × Value)) (a : Act), jV a (fun _ => false) L = a := by
   intro L
   induction L with
   | nil => intro a; rfl
   | cons e L ih => intro a; unfold jV; rw [if_neg (by simp)]; exact ih a
  rw [this]
 ·intro i hi
  have hil : i < ops.size := List.mem_range.1 hi
  have hiD : i < D.length := by omega
  intro b a w ⟨vs, ha, hR, hB⟩ hb hon hoff
  have hsz : ∀ s, D.contains s = false → a.tmps[s]? = a0.tmps[s]? := by
   intro s hsD
   rw [ha]
   refine qC ?_
   rw [List.all_eq_true]
   intro e he
   obtain ⟨j, hj⟩ := List.getElem?_of_mem he
   have hjl : j < D.length := by have := (List.getElem?_eq_some_iff.1 hj).1; rwa [l7] at this
   rw [kV hjl] at hj
   simp only [Option.some.injEq] at hj
   subst hj
   simp only [Bool.not_eq_true', beq_eq_false_iff_ne]
   intro h
   have : D.contains s = true := by
    rw [List.contains_iff_mem, ← h, List.getD_eq_getElem?_getD, List.getElem?_eq_getElem hjl]
    exact List.getElem_mem hjl
   rw [this] at hsD
   cases hsD
  have hdep : ∀ j, (B.getD i 0).testBit j = true → a.tmps[D.getD j 0]? = some (vs j) ∧ R j (vs j) w := by
   intro j hj
   have hjn : j < ops.size := by
    rcases Nat.lt_or_ge j ops.size with h | h
    ·exact h
    ·have h1 := List.all_eq_true.1 hBn i hi
     have h2 : B.getD i 0 ≤ 2 ^ ops.size - 1 := Nat.le_of_ble_eq_true h1
     have h3 : B.getD i 0 < 2 ^ j := Nat.lt_of_le_of_lt h2 (Nat.lt_of_lt_of_le (Nat.sub_lt (Nat.two_pow_pos _) Nat.one_pos) (Nat.pow_le_pow_right (by decide) h))
     rw [Nat.testBit_lt_two_pow h3] at hj
     cases hj
   have hbj : b j = true := hon j (by rw [Bool.and_eq_true]; exact ⟨by simpa using hjn, hj⟩)
   refine ⟨?_, hR j hjn hbj⟩
   rw [ha]
   have hjD : j < D.length := by omega
   refine zN (e := (j, D.getD j 0, vs j)) j (kV hjD) ?_ hbj ?_
   ·have := oN (vs := vs) hD hjD
    rw [List.all_append, Bool.and_eq_true] at this
    have h2 := this.2
    rw [List.all_eq_true] at h2 ⊢
    intro x hx
    have := h2 x hx
    rw [Bool.and_eq_true] at this
    exact this.2
   ·have h1 := List.all_eq_true.1 hin (D.getD j 0) (by rw [List.getD_eq_getElem?_getD, List.getElem?_eq_getElem hjD]; exact List.getElem_mem hjD)
    exact h1
  obtain ⟨oi, ho, hdst, hstep⟩ := hs i hi a w vs hB hsz hdep
  refine ⟨oi, ho, fun K hK => ?_⟩
  rw [hdst]
  refine hstep K fun v w' hv hbw => ?_
  refine hK.out _ _ ⟨fun j => if j = i then v else vs j, ?_, ?_, iF hB hbw⟩
  ·rw [ha]
   exact IZ i hb (kV hiD) (zU v) (oN hD hiD)
  ·intro j hj hbj
   by_cases hji : j = i
   ·subst hji
    simp only [if_pos]
    exact hv
   ·simp only [if_neg hji]
    rw [yR hji] at hbj
    exact hmono _ _ _ _ (hR j hj hbj) hbw
 ·intro b a w hall ⟨vs, ha, hR, hB⟩
  have : jV a0 b (entries D vs) = jV a0 (fun _ => true) (entries D vs) := by
   have hlt : ∀ e ∈ entries D vs, b e.1 = true := by
    intro e he
    obtain ⟨j, hj⟩ := List.getElem?_of_mem he
    have hjl : j < D.length := by have := (List.getElem?_eq_some_iff.1 hj).1; rwa [l7] at this
    rw [kV hjl] at hj
    simp only [Option.some.injEq] at hj
    subst hj
    exact hall j (by simpa using (by omega : j < ops.size))
   exact rC (fun e he => hlt e he)
  rw [ha, this]
  exact hend vs w hB (fun i hi => hR i hi (hall i (by simpa using hi)))
theorem vF {id : Nat} {a0 : Act} {w0 : World} (D : List Tmp) (Rs : List (Value → World → Prop)) (L : List Nat) (T : Bool × List (List Nat × List Nat)) (B : List Nat) (hm : P.follows .mixedOrders = true)
  (hT : rtab .any ops = T) (hL : List.range ops.size = L) (hw : nV T.2 B = true) (hk : qK T.2 L = true) (hD : vM D = true) (hDn : D.length = ops.size)
  (hin : (D.all fun t => Nat.ble (t + 1) a0.tmps.size) = true) (hBn : (L.all fun i => Nat.ble (B.getD i 0) (2 ^ D.length - 1)) = true)
  (hmono : ∀ r ∈ Rs, Rm r) (hs : ∀ i ∈ L, rZ P ops Q B D (RR Rs) a0 w0 i)
  (hend : ∀ (vs : Nat → Value) (w : World), Below w0.heap.size w0 w → (∀ i, Nat.ble (i + 1) D.length = true → RR Rs i (vs i) w) → Q .normal (jV a0 (fun _ => true) (entries D vs)) w) :
  (Code.region id ops true).wp P Q a0 w0 := by
 subst hL
 rw [hDn] at hBn
 exact OT D (RR Rs) hm hT hw hk hD hDn hin hBn (jb7 hmono) hs (fun vs w hb h => hend vs w hb (fun i hi => h i (by have := Nat.le_of_ble_eq_true hi; omega)))
end
end Go.Proofs.YtgfkgppomaapiaaGreatDoor.My
end

section
namespace Go.Proofs.YtgfkgppomaapiaaGreatDoor.My
open Go Go.RowKit Go.Proofs.YtgfkgppomaapiaaGreatDoorW.PrintWords Go.Proofs.YtgfkgppomaapiaaGreatDoorW.PrintLast
section
variable {P : Program} {ops : Array Oper} {Q : Exit → Act → World → Prop} {T : Bool × List (List Nat × List Nat)} {B : List Nat}
def Met (B : List Nat) (D : List Tmp) (V : Nat → Value) (a0 a : Act) (i : Nat) : Prop :=
 (∀ s, D.contains s = false → a.tmps[s]? = a0.tmps[s]?) ∧ (∀ j, (B.getD i 0).testBit j = true → a.tmps[D.getD j 0]? = some (V j)) ∧ a.defers = a0.defers
def xC (P : Program) (ops : Array Oper) (Q : Exit → Act → World → Prop) (B : List Nat) (D : List Tmp) (V : Nat → Value) (a0 : Act) (Ok : World → Prop) (i : Nat) : Prop :=
 ∀ (a : Act) (w : World), Ok w → Met B D V a0 a i → ∃ oi, ops[i]? = some oi ∧ oi.dst = some (D.getD i 0) ∧ ∀ K : Act → World → Prop, K (a.put (some (D.getD i 0)) (V i)) w →
  if Region.wanted oi (yielded ops a.tmps) = true then Oper.wp P oi a w K Q else K (a.put (some (D.getD i 0)) undef) w
theorem J5 {D : List Tmp} {V : Nat → Value} {a0 : Act} {Ok : World → Prop} : ∀ i ∈ ([] : List Nat), xC P ops Q B D V a0 Ok i := fun _ h => by cases h
theorem jU {D : List Tmp} {V : Nat → Value} {a0 : Act} {Ok : World → Prop} {i : Nat} {rs : List Nat} (h : xC P ops Q B D V a0 Ok i) (hs : ∀ j ∈ rs, xC P ops Q B D V a0 Ok j) : ∀ j ∈ i :: rs, xC P ops Q B D V a0 Ok j := fun j hj => by
 rcases List.mem_cons.1 hj with rfl | hj
 ·exact h
 ·exact hs j hj
theorem jd6 {oi : Oper} {N : Option Tmp} {a : Act} {w : World} {K : Act → World → Prop} {f : FuncId} {fn : Func} {ops0 : Array Operand} {ts : Array TypeId} (hf : P.funcs[f]? = some fn) (hname : (fn.name == "runtime.NumGoroutine") = false) (hb : fn.body.isSome = true) (args : Array Value)
  (hw : Region.wanted oi (yielded ops a.tmps) = true) (hop : oi.op = .call { callee := .value (.func f), args := ops0, argTypes := ts }) (hargs : ops0.map a.eval = args)
  (h : Calls P f args w fun e w' => ∃ chain, e = .panicked chain ∧ Q (.panic chain) a w') : if Region.wanted oi (yielded ops a.tmps) = true then Oper.wp P oi a w K Q else K (a.put N undef) w := by
 have he := O1 hf hname hb args w
 have hrun : (execOp a.eval oi).run P w = .ok (.enter f args) w := by
  unfold execOp
  simp [hop, resolve, Deferred.ofValue, invoke, Act.eval, hargs, he]
 rw [if_pos hw]
 unfold Oper.wp
 rw [hrun, Oper.upon_enter]
 refine h.mono fun e w'' hh => ?_
 obtain ⟨chain, rfl, hk⟩ := hh
 exact hk
theorem IK {id : Nat} {a0 : Act} {w0 : World} (D : List Tmp) (V : Nat → Value) (c : Nat) (Aft Fin : World → Prop) (L : List Nat) (Lp : List Nat) (T : Bool × List (List Nat × List Nat)) (B : List Nat) (hm : P.follows .mixedOrders = true)
  (hT : rtab .any ops = T) (hL : List.range ops.size = L) (hw : nV T.2 B = true) (hk : qK T.2 L = true) (hD : vM D = true) (hDn : D.length + 1 = ops.size)
  (hin : (D.all fun t => Nat.ble (t + 1) a0.tmps.size) = true) (hBn : (L.all fun i => Nat.ble (B.getD i 0) (2 ^ D.length - 1)) = true)
  (hLp : ((List.range D.length).all fun i => i == c || Lp.contains i) = true)
  (hlast : ((List.range D.length).all fun j => (B.getD D.length 0).testBit j) = true)
  (hpure : ∀ i ∈ Lp, xC P ops Q B D V a0 (fun w => w = w0.drew ∨ Aft w) i)
  (hcall : ∀ (a : Act), Met B D V a0 a c → ∃ oi, ops[c]? = some oi ∧ oi.dst = some (D.getD c 0) ∧ ∀ K : Act → World → Prop, (∀ w', Aft w' → K (a.put (some (D.getD c 0)) (V c)) w') →
   if Region.wanted oi (yielded ops a.tmps) = true then Oper.wp P oi a w0.drew K Q else K (a.put (some (D.getD c 0)) undef) w0.drew)
  (hc : Nat.ble (c + 1) D.length = true)
  (hstore : ∀ (a : Act) (w : World), Aft w → Met B D V a0 a D.length → ∃ om, ops[D.length]? = some om ∧ om.dst = none ∧ ∀ K : Act → World → Prop, (∀ w', Fin w' → K a w') →
   if Region.wanted om (yielded ops a.tmps) = true then Oper.wp P om a w K Q else K (a.put none undef) w)
  (hend : ∀ w, Fin w → Q .normal (jV a0 (fun _ => true) (entries D V)) w) :
  (Code.region id ops true).wp P Q a0 w0 := by
 subst hL
 have hTl : T.2.length = ops.size := by rw [← hT, o8]
 have hcl : c < D.length := by have := Nat.le_of_ble_eq_true hc; omega
 refine vP (n := ops.size) (S := fun _ => True) (ds := []) (Array.replicate ops.size false) hm rfl rfl trivial (fun _ => ?_)
 have hall : ∀ {b : Nat → Bool}, (∀ j, j < D.length → b j = true) → jV a0 b (entries D V) = jV a0 (fun _ => true) (entries D V) := by
  intro b hb
  refine rC (fun e he => ?_)
  obtain ⟨j, hj⟩ := List.getElem?_of_mem he
  have hjl : j < D.length := by have := (List.getElem?_eq_some_iff.1 hj).1; rwa [l7] at this
  rw [kV hjl] at hj
  simp only [Option.some.injEq] at hj
  subst hj
  exact hb j hjl
 have hoffs : ∀ (b : Nat → Bool) s, D.contains s = false → (jV a0 b (entries D V)).tmps[s]? = a0.tmps[s]? := by
  intro b s hsD
  refine qC ?_
  rw [List.all_eq_true]
  intro e he
  obtain ⟨j, hj⟩ := List.getElem?_of_mem he
  have hjl : j < D.length := by have := (List.getElem?_eq_some_iff.1 hj).1; rwa [l7] at this
  rw [kV hjl] at hj
  simp only [Option.some.injEq] at hj
  subst hj
  simp only [Bool.not_eq_true', beq_eq_false_iff_ne]
  intro h
  have : D.contains s = true := by
   rw [List.contains_iff_mem, ← h, List.getD_eq_getElem?_getD, List.getElem?_eq_getElem hjl]
   exact List.getElem_mem hjl
  rw [this] at hsD
  cases hsD
 have hons : ∀ (b : Nat → Bool) j, j < D.length → b j = true → (jV a0 b (entries D V)).tmps[D.getD j 0]? = some (V j) := by
  intro b j hjD hbj
  refine zN (e := (j, D.getD j 0, V j)) j (kV hjD) ?_ hbj ?_
  ·have := oN (vs := V) hD hjD
   rw [List.all_append, Bool.and_eq_true] at this
   have h2 := this.2
   rw [List.all_eq_true] at h2 ⊢
   intro x hx
   have := h2 x hx
   rw [Bool.and_eq_true] at this
   exact this.2
  ·exact List.all_eq_true.1 hin (D.getD j 0) (by rw [List.getD_eq_getElem?_getD, List.getElem?_eq_getElem hjD]; exact List.getElem_mem hjD)
 refine inv_ (T := T) (B := B) (List.range ops.size) (fun b a w => a = jV a0 b (entries D V) ∧ (b D.length = true → (∀ j, j < D.length → b j = true) ∧ Fin w) ∧ (b D.length = false → if b c = true then Aft w else w = w0.drew)) hT hw hk ?_ ?_ ?_ ?_
 ·simp only [Bool.and_eq_true, beq_iff_eq, List.length_range, and_true]
  rw [hTl]
  apply List.ext_getElem
  ·simp [lof]
  ·intro i h1 h2
   simp [lof] at h1 ⊢
   exact h1
 ·refine ⟨?_, (fun h => by cases h), fun _ => by simp⟩
  have : ∀ (L : List (Nat × Tmp × Value)) (a : Act), jV a (fun _ => false) L = a := by
   intro L
   induction L with
   | nil => intro a; rfl
   | cons e L ih => intro a; unfold jV; rw [if_neg (by simp)]; exact ih a
  rw [this]
 ·intro i hi
  have hil : i < ops.size := List.mem_range.1 hi
  intro b a w ⟨ha, hfin, hbef⟩ hb hon hoff
  have hdepb : ∀ j, (B.getD i 0).testBit j = true → j < D.length ∧ b j = true := by
   intro j hj
   have hjn : j < D.length := by
    rcases Nat.lt_or_ge j D.length with h | h
    ·exact h
    ·have h1 := List.all_eq_true.1 hBn i hi
     have h2 : B.getD i 0 ≤ 2 ^ D.length - 1 := Nat.le_of_ble_eq_true h1
     have h3 : B.getD i 0 < 2 ^ j := Nat.lt_of_le_of_lt h2 (Nat.lt_of_lt_of_le (Nat.sub_lt (Nat.two_pow_pos _) Nat.one_pos) (Nat.pow_le_pow_right (by decide) h))
     rw [Nat.testBit_lt_two_pow h3] at hj
     cases hj
   exact ⟨hjn, hon j (by rw [Bool.and_eq_true]; exact ⟨by simpa using (by omega : j < ops.size), hj⟩)⟩
  have hmet : Met B D V a0 a i := by
   subst ha
   exact ⟨hoffs b, fun j hj => hons b j (hdepb j hj).1 (hdepb j hj).2, (vH b _ _).2⟩
  by_cases hiD : i < D.length
  ·have hne : b D.length = false := by
    cases hbD : b D.length with
    | false => rfl
    | true => rw [(hfin hbD).1 i hiD] at hb; cases hb
   have hbw := hbef hne
   have hup : up b i D.length = false := by rw [yR (by omega)]; exact hne
   have hnext : a.put (some (D.getD i 0)) (V i) = jV a0 (up b i) (entries D V) := by
    rw [ha]
    exact IZ i hb (kV hiD) (by rw [zU]; congr 1; funext j; split <;> simp_all) (oN hD hiD)
   by_cases hic : i = c
   ·subst hic
    rw [if_neg (by rw [hb]; decide)] at hbw
    subst hbw
    obtain ⟨oi, ho, hdst, hstep⟩ := hcall a hmet
    refine ⟨oi, ho, fun K hK => ?_⟩
    rw [hdst]
    refine hstep K fun w' hw' => hK.out _ _ ⟨hnext, (fun h => by rw [hup] at h; cases h), fun _ => ?_⟩
    rw [if_pos (xZ b i)]
    exact hw'
   ·have hLi : i ∈ Lp := by
     have := List.all_eq_true.1 hLp i (List.mem_range.2 hiD)
     rw [Bool.or_eq_true, beq_iff_eq] at this
     rcases this with h | h
     ·exact absurd h hic
     ·exact List.contains_iff_mem.1 h
    obtain ⟨oi, ho, hdst, hstep⟩ := hpure i hLi a w (by
     split at hbw
     ·exact .inr hbw
     ·exact .inl hbw) hmet
    refine ⟨oi, ho, fun K hK => ?_⟩
    rw [hdst]
    refine hstep K (hK.out _ _ ⟨hnext, (fun h => by rw [hup] at h; cases h), fun _ => ?_⟩)
    rw [yR (Ne.symm hic)]
    exact hbw
  ·have hiD' : i = D.length := by omega
   subst hiD'
   have hbs : ∀ j, j < D.length → b j = true := fun j hj => (hdepb j (List.all_eq_true.1 hlast j (List.mem_range.2 hj))).2
   have hbw := hbef hb
   rw [if_pos (hbs c hcl)] at hbw
   have ha' : a = jV a0 (fun _ => true) (entries D V) := by rw [ha, hall hbs]
   subst ha'
   obtain ⟨om, ho, hdst, hstep⟩ := hstore _ w hbw hmet
   refine ⟨om, ho, fun K hK => ?_⟩
   rw [hdst]
   refine hstep K fun w' hw' => ?_
   refine hK.out _ _ ⟨?_, fun _ => ⟨fun j hj => by rw [yR (by omega)]; exact hbs j hj, hw'⟩, fun h => by rw [xZ] at h; cases h⟩
   rw [hall (b := up b D.length) (fun j hj => by rw [yR (by omega)]; exact hbs j hj)]
 ·intro b a w hallb ⟨ha, hfin, _⟩
  have hb : ∀ j, j < D.length + 1 → b j = true := fun j hj => hallb j (by simpa using (by omega : j < ops.size))
  have hf := hfin (hb _ (Nat.lt_succ_self _))
  rw [ha, hall hf.1]
  exact hend w hf.2
end
end Go.Proofs.YtgfkgppomaapiaaGreatDoor.My
end

section
namespace Go.Proofs.YtgfkgppomaapiaaGreatDoor.K
open RowKit YtgfkgppomaapiaaGreatDoorW.PrintWords YtgfkgppomaapiaaGreatDoorW.PrintLast YtgfkgppomaapiaaGreatDoorW.PrintMore My
theorem XD : (Tryz.prog.info? 149).map (fun i => (i.zero, i.size, i.bytes)) = some (some (.agg #[(.slice none 0 0), (.int .i64 0)]), 2, 32) := by kernel_rfl
def mZ {α : Type} (d : Kd α) (w : World) (base : Nat) (P : Nat → Prop) (done : List α) (rows : List (List Value)) : Prop :=
 ∀ (j : Nat) (p : α) (c : List Value), done[j]? = some p → rows[j]? = some c → d.M w base P p c
theorem mZ.move {α : Type} {d : Kd α} {w w' : World} {base : Nat} {P : Nat → Prop} {done : List α} {rows : List (List Value)} (h : mZ d w base P done rows) (hm : ∀ b, P b → base ≤ b → b < w.heap.size → w'.heap[b]? = w.heap[b]?) : mZ d w' base P done rows := fun j p c hj hc =>
 d.M_mono (fun _ hk => hk.1) (d.M_move (fun k hk => hm k hk.1 hk.2.1 hk.2.2.1) (d.M_bound (h j p c hj hc)))
theorem mZ.bound {α : Type} {d : Kd α} {w : World} {base : Nat} {P : Nat → Prop} {done : List α} {rows : List (List Value)} (h : mZ d w base P done rows) : mZ d w base (fun b => P b ∧ b < w.heap.size) done rows := fun j p c hj hc =>
 d.M_mono (fun _ hk => ⟨hk.1, hk.2.2.1⟩) (d.M_bound (h j p c hj hc))
theorem mZ.mono {α : Type} {d : Kd α} {w : World} {base : Nat} {P P' : Nat → Prop} {done : List α} {rows : List (List Value)} (h : mZ d w base P done rows) (hp : ∀ b, P b → P' b) : mZ d w base P' done rows := fun j p c hj hc => d.M_mono hp (h j p c hj hc)
theorem mZ.set {α : Type} {d : Kd α} {w : World} {base : Nat} {P : Nat → Prop} {done : List α} {rows : List (List Value)} {k : Nat} (h : mZ d w base P done rows) (hk : done.length ≤ k) (u : List Value) : mZ d w base P done (rows.set k u) := fun j p c hj hc => by
 have hjl := (List.getElem?_eq_some_iff.1 hj).1
 rw [List.getElem?_set_ne (by omega)] at hc
 exact h j p c hj hc
theorem mZ.snoc {α : Type} {d : Kd α} {w : World} {base : Nat} {P : Nat → Prop} {done : List α} {rows : List (List Value)} {x : α} {c : List Value} (h : mZ d w base P done rows) (hc : rows[done.length]? = some c) (hx : d.M w base P x c) : mZ d w base P (done ++ [x]) rows := fun j p c' hj hc' => by
 rcases Nat.lt_or_ge j done.length with hj' | hj'
 ·rw [List.getElem?_append_left hj'] at hj
  exact h j p c' hj hc'
 ·have hjl := (List.getElem?_eq_some_iff.1 hj).1
  rw [List.length_append, List.length_singleton] at hjl
  obtain rfl : j = done.length := by omega
  rw [List.getElem?_append_right (Nat.le_refl _), Nat.sub_self] at hj
  obtain rfl : x = p := by simpa using hj
  rw [hc] at hc'
  injection hc' with hc'
  subst hc'
  exact hx
theorem mZ.grown {α : Type} {d : Kd α} {w w' : World} {base g : Nat} {P : Nat → Prop} {done : List α} {rows : List (List Value)} (h : mZ d w base P done rows) (hg : w.grownBy w' (some g)) (hlt : g < base) : mZ d w' base P done rows :=
 h.move (fun b _ hb hl => hg.block b hl (fun e => by injection e with e; omega))
theorem mZ.other {α : Type} {d : Kd α} {w w' : World} {base g : Nat} {P : Nat → Prop} {done : List α} {rows : List (List Value)} (h : mZ d w base P done rows) (hg : w.grownBy w' (some g)) (hp : ∀ b, P b → b ≠ g) : mZ d w' base P done rows :=
 h.move (fun b hb _ hl => hg.block b hl (fun e => hp b hb (by injection e)))
theorem O3 {α : Type} {d : Kd α} {e : Nat} {w w1 : World} {base : Nat} {ok : Nat → Prop} {v : Value} {xs : List α} {g : Nat} (h : d.R e w base ok v xs) (hE : d.E = []) (hg : w.grownBy w1 (some g)) (hne : some g ≠ v.ownBlock) : d.R e w1 base ok v xs := by
 have h1 := Kd.R_tight hE h
 have h2 := Kd.R_grown h1 hg (fun k hk e => hne (by rw [← hk]; exact e.symm))
 exact ⟨fun k hk => h.1 k hk, (by
  obtain ⟨_, inner, ho, hr⟩ := h2
  refine ⟨inner, ho, hr.imp_ (fun p c hp => ?_)⟩
  refine d.M_mono (fun k hk => ?_) (d.M_bound hp)
  obtain ⟨_, _, _, q, hq, _⟩ := hk
  rw [hE] at hq
  cases hq)⟩
theorem P7 {r : List UInt8} (h : many 1 4 r = none) : pO r = none := by unfold pO; rw [h]; rfl
theorem O0 {r r1 : List UInt8} {n : Nat} (h : many 1 4 r = some (n, r1)) (h1 : repP (intP 4) n r1 = none) : pO r = none := by unfold pO; rw [h]; simp only [Option.bind_some]; rw [h1]; rfl
theorem OU {r r1 r2 : List UInt8} {n : Nat} {ks : List Int} (h : many 1 4 r = some (n, r1)) (h1 : repP (intP 4) n r1 = some (ks, r2)) (h2 : number 8 r2 = none) : pO r = none := by unfold pO; rw [h]; simp only [Option.bind_some]; rw [h1]; simp only [Option.bind_some]; rw [h2]; rfl
theorem JA {r r1 r2 r3 : List UInt8} {n m : Nat} {ks : List Int} (h : many 1 4 r = some (n, r1)) (h1 : repP (intP 4) n r1 = some (ks, r2)) (h2 : number 8 r2 = some (m, r3)) : pO r = some (⟨ks, s64 m⟩, r3) := by unfold pO; rw [h]; simp only [Option.bind_some]; rw [h1]; simp only [Option.bind_some]; rw [h2]; rfl
theorem QN (m : Nat) (h : m < 18446744073709551616) : wrap64 (m : Int) = s64 m := by
 unfold wrap64 s64
 split <;> omega
theorem jb5 (l : List UInt8) : numB (l.take 8) < 18446744073709551616 := by
 have h1 := xJ (l.take 8)
 have h2 : (l.take 8).length ≤ 8 := by rw [List.length_take]; omega
 have h3 : 256 ^ (l.take 8).length ≤ 256 ^ 8 := Nat.pow_le_pow_right (by decide) h2
 have h4 : 256 ^ 8 = 18446744073709551616 := by decide
 omega
theorem Left.len {α : Type} {p : List UInt8 → Option (α × List UInt8)} {n k : Nat} {l r : List UInt8} {done : List α} (h : Left p n k l r done) : done.length = k := h.1
def Short {α : Type} (p : List UInt8 → Option (α × List UInt8)) : Prop := ∀ l x r, p l = some (x, r) → r.length ≤ l.length
theorem oW (s : Nat) : Short (intP s) := fun l x r h => by
 obtain ⟨_, _, rfl⟩ := nR h
 rw [List.length_drop]; omega
theorem qF {α : Type} {p : List UInt8 → Option (α × List UInt8)} (hp : Short p) : ∀ n, Short (repP p n)
 | 0, l, x, r, h => by
  simp only [repP, Option.some.injEq, Prod.mk.injEq] at h
  rw [h.2]; exact Nat.le_refl _
 | n + 1, l, x, r, h => by
  rw [zW] at h
  obtain ⟨⟨y, r1⟩, h1, h⟩ := Option.bind_eq_some_iff.1 h
  obtain ⟨⟨ys, r2⟩, h2, h⟩ := Option.bind_eq_some_iff.1 h
  simp only [Option.some.injEq, Prod.mk.injEq] at h
  have a := hp _ _ _ h1
  have b := qF hp n _ _ _ h2
  rw [← h.2]
  exact Nat.le_trans b a
theorem UB : Short pO := fun l x r h => by
 unfold pO at h
 obtain ⟨⟨n, r1⟩, h1, h⟩ := Option.bind_eq_some_iff.1 h
 obtain ⟨⟨ks, r2⟩, h2, h⟩ := Option.bind_eq_some_iff.1 h
 obtain ⟨⟨m, r3⟩, h3, h⟩ := Option.bind_eq_some_iff.1 h
 simp only [Option.some.injEq, Prod.mk.injEq] at h
 have a := (mJ h1 (by omega)).1
 have b := qF (oW 4) n _ _ _ h2
 obtain ⟨_, _, hd⟩ := nM h3
 simp only at a b hd
 have c : r3.length ≤ r2.length := by rw [hd, List.length_drop]; omega
 rw [← h.2]
 omega
theorem LQ (rows : List (List Value)) (k : Nat) (u : List Value) (h : k < rows.length) : (rows.set k u).getD k [] = u := by
 rw [List.getD_eq_getElem?_getD, List.getElem?_set_self h]; rfl
set_option maxRecDepth 20000 in
set_option maxHeartbeats 8000000 in
theorem xM (g : Nat) (l : List UInt8) (w0 w : World) (h : Rd w0 w g l) (hb : Below w0.heap.size w0 w) (hg : w0.heap.size ≤ g) (hm : (l.length : Int) ≤ 100000) :
  Calls Tryz.prog 116 #[.pointer (some ⟨g, 0, none⟩)] w (PP (mV l) (fun xs v w' => Kd.R k149 149 w' w.heap.size (fun _ => True) v xs) w0 w g) := by
 have HR := iC.mk h
 have HB := iC.mk hb
 have hlt := h.lt
 clear h hb
 cases hmy : many 4 9 l with
 | none =>
  have hn : mV l = none := by unfold mV; rw [hmy]; rfl
  have hcall := qI 4 9 4 9 rfl rfl (by omega) (by omega) g l w0 w HR.out HB.out hg hmy
  have HN := iC.mk hn
  clear hmy hn
  go_enter Tryz.func116, Tryz.ntmps116
  go_wp2_with (go_at_call 122; refine hcall.mono ?_; rintro e w1 ⟨rfl, hG⟩)
  exact ⟨rfl, hG, .inr ⟨HN.out, rfl⟩⟩
 | some x =>
  obtain ⟨n, r0⟩ := x
  have hn : mV l = repP pO n r0 := by unfold mV; rw [hmy]; rfl
  have hcall := zD 4 9 4 9 rfl rfl (by omega) (by omega) g l r0 n w0 w HR.out HB.out hg hmy
  have HN := iC.mk hn
  obtain ⟨hl1, hl2⟩ := mJ hmy (by omega)
  have hn1 : (n : Int) ≤ 100000 := by omega
  have hr0 : (r0.length : Int) ≤ 100000 := by omega
  have hmk := vS (t := 48) (e := 149) Tryz.underlying48 XD (by omega) n hn1
  clear hmy hn hl1 hl2
  go_enter Tryz.func116, Tryz.ntmps116
  go_wp2_with (go_at_call 122; refine hcall.mono ?_; rintro e w1 ⟨rfl, hR, hG, hle⟩; clear hle; have HR1 := iC.mk hR; have HG1 := iC.mk hG; clear hR hG)
  have HO := iC.mk (V8 (e := 149) (W := w1) (n := n) (base := w.heap.size) (x := .slice none 0 0) (y := .int .i64 0) rfl rfl (by omega) HG1.out.size)
  have HG := iC.mk (iU HG1.out (grown_below (iD (Below.refl _ _) (.cells (madeCells #[.slice none 0 0, .int .i64 0] (n * 2)) 149))))
  have HR2 := iC.mk (Rd.grown HR1.out (grown_below (row := none) (iD (Below.refl _ _) (.cells (madeCells #[.slice none 0 0, .int .i64 0] (n * 2)) 149))) (by simp))
  clear HR1 HG1 hcall hmk
  obtain ⟨ad, had⟩ : ∃ ad : Addr, ad = ⟨w1.heap.size, 0, none⟩ := ⟨_, rfl⟩
  rw [← had] at HO ⊢
  obtain ⟨W2, hW⟩ : ∃ W2, W2 = w1.alloc (.cells (madeCells #[.slice none 0 0, .int .i64 0] (n * 2)) 149) := ⟨_, rfl⟩
  rw [← hW] at HO HG HR2
  first | rw [← hW] | (rw [show w1.alloc (.cells (madeCells (Value.agg #[.slice none 0 0, .int .i64 0]).cells (n * 2)) 149) = W2 from hW.symm])
  clear hW had
  go_loopw [11] (fun i wr => ∃ (k : Nat) (done : List jR) (r : List UInt8) (rows : List (List Value)), k ≤ n ∧ i = .int .i64 k ∧ iC (Left pO n k r0 r done) ∧ (r.length : Int) ≤ 100000 ∧ iC (Rd w0 wr g r) ∧ iC (RW 149 wr w.heap.size (.slice (some ad) n n) rows) ∧ iC (rows.length = n) ∧ iC (mZ k149 wr w.heap.size (fun b => b ≠ ad.block) done rows) ∧ iC (w.grownBy wr (some g))) (fun i _ => n - (intOf i).toNat)
  case atStart => exact ⟨0, [], r0, _, Nat.zero_le _, rfl, ⟨Left.start _ _ _⟩, hr0, HR2, HO, ⟨List.length_replicate⟩, ⟨fun j p c hj _ => by simp at hj⟩, HG⟩
  case round =>
   obtain ⟨k, done, r, rows, hk, rfl, HL, hrl, HRd, HOk, HLEN, HD, HGk⟩ := hrel
   clear HR2 HO HG
   by_cases hkn : k < n
   ·cases hp : many 1 4 r with
    | none =>
     have hcall := qI 1 4 1 4 rfl rfl (by omega) (by omega) g r w0 wr HRd.out (below_grown HB.out HGk.out hg (Nat.le_refl _)) hg hp
     have HF := iC.mk (Left.fail HL.out hkn (P7 hp))
     clear hp
     go_wp2_with (go_at_call 122; refine hcall.mono ?_; rintro e w2 ⟨rfl, hG⟩)
     exact ⟨rfl, iU HGk.out hG, .inr ⟨by rw [HN.out]; exact HF.out, rfl⟩⟩
    | some x =>
     obtain ⟨nk, r1⟩ := x
     have hcall := zD 1 4 1 4 rfl rfl (by omega) (by omega) g r r1 nk w0 wr HRd.out (below_grown HB.out HGk.out hg (Nat.le_refl _)) hg hp
     obtain ⟨hl1, hl2⟩ := mJ hp (by omega)
     have hnk : (nk : Int) ≤ 100000 := by omega
     have hr1 : (r1.length : Int) ≤ 100000 := by omega
     have hmk := vS (t := 47) (e := 3) Tryz.underlying47 info3 (by omega) nk hnk
     have HP := iC.mk hp
     clear hp hl1 hl2
     obtain ⟨wo, rfl⟩ : ∃ wo : World, wo = wr := ⟨_, rfl⟩
     obtain ⟨_, _, _, _, _, _, _, _, hadlt, _, _⟩ := JW HOk.out k hkn
     go_wp2_with (go_at_call 122; refine hcall.mono ?_; rintro e w2 ⟨rfl, hR, hG, hle⟩; clear hle; have HR1 := iC.mk hR; have HG1 := iC.mk hG; clear hR; obtain ⟨x0, y0, hrow, z0, z1, f0, f1, hbs, hbl, hset0, _⟩ := JW (Kd.R_below (jS HOk.out hG hlt) (iD (Below.refl _ _) (.cells (madeCells #[.int .i64 0] nk) 3))) k hkn; have HROW := iC.mk hrow; have HSET := iC.mk hset0; clear hrow hset0 hG z1 f1 hbl; rename_i junk_; clear junk_)
     clear hcall hmk z0 f0
     obtain ⟨hs3, hg3⟩ := HSET.out (.slice (some ⟨w2.heap.size, 0, none⟩) nk nk) rfl
     have hRI0 : RI (w2.alloc (.cells (madeCells #[.int .i64 0] nk) 3)) w.heap.size (.slice (some ⟨w2.heap.size, 0, none⟩) nk nk) (List.replicate nk 0) := j2_ (by omega) (iU HGk.out HG1.out).size
     have hsz2 : wo.heap.size ≤ w2.heap.size := HG1.out.size
     have hRI := O3 hRI0 rfl hg3 (by simp [Value.ownBlock]; omega)
     have hgW : w.grownBy ((w2.alloc (.cells (madeCells #[.int .i64 0] nk) 3)).setCell (ad.add (k * 2)) (.slice (some ⟨w2.heap.size, 0, none⟩) nk nk)) (some g) :=
      kE (iU (iU HGk.out HG1.out) (grown_below (iD (Below.refl _ _) _))) hg3 hbs
     have hRd3 := Rd.grown (Rd.grown HR1.out (grown_below (row := none) (iD (Below.refl _ _) (.cells (madeCells #[.int .i64 0] nk) 3))) (by simp)) hg3 (by intro e; injection e with e; omega)
     have hD3 : mZ k149 ((w2.alloc (.cells (madeCells #[.int .i64 0] nk) 3)).setCell (ad.add (k * 2)) (.slice (some ⟨w2.heap.size, 0, none⟩) nk nk)) w.heap.size (fun b => b ≠ ad.block ∧ b < wo.heap.size) done (rows.set k [.slice (some ⟨w2.heap.size, 0, none⟩) nk nk, y0]) :=
      mZ.set (HD.out.bound.move (fun b hP hb hl => by
       have h1 : b ≠ g := by omega
       have h2 := HG1.out.block b hl (fun e => h1 (by injection e))
       have h3 : (w2.alloc (.cells (madeCells #[.int .i64 0] nk) 3)).heap[b]? = w2.heap[b]? := Below.heap_alloc _ _ _ (by omega)
       exact (hg3.block b (by simp; omega) (fun e => hP.1 (by injection e))).trans (h3.trans h2))) (by rw [HL.out.1]; exact Nat.le_refl _) _
     have HKB := iC.mk (show w2.heap.size ≠ ad.block ∧ wo.heap.size ≤ w2.heap.size from ⟨by omega, hsz2⟩)
     have HS3 := iC.mk hs3
     have HRI3 := iC.mk hRI
     have HG3 := iC.mk hgW
     have HRd3 := iC.mk hRd3
     have HD3 := iC.mk hD3
     clear hs3 hg3 hRI0 hRI hgW hRd3 hD3 HSET HR1 HG1 hsz2 HROW
     obtain ⟨kad, hkad⟩ : ∃ kad : Addr, kad = ⟨w2.heap.size, 0, none⟩ := ⟨_, rfl⟩
     rw [show w2.heap.size = kad.block by rw [hkad]] at HKB
     rw [← hkad] at HS3 HRI3 HG3 HRd3 HD3 ⊢
     obtain ⟨W3, hW3⟩ : ∃ W3, W3 = (w2.alloc (.cells (madeCells #[.int .i64 0] nk) 3)).setCell (ad.add (k * 2)) (.slice (some kad) nk nk) := ⟨_, rfl⟩
     rw [← hW3] at HS3 HRI3 HG3 HRd3 HD3
     first | rw [← hW3] | (rw [show (w2.alloc (.cells (madeCells (Value.int .i64 0).cells (nk * 1)) 3)).setCell (ad.add (k * 2)) (.slice (some kad) nk nk) = W3 from by rw [hW3, Nat.mul_one]; rfl])
     clear hW3 hkad
     have hadI : (k : Int) < (n : Int) := by omega
     have HKN := iC.mk hkn
     go_loopw [27] (fun i wi => ∃ (j : Nat) (kd : List Int) (r2 : List UInt8), j ≤ nk ∧ i = .int .i64 j ∧ iC (Left (intP 4) nk j r1 r2 kd) ∧ (r2.length : Int) ≤ 100000 ∧ iC (Rd w0 wi g r2) ∧ iC (RI wi w.heap.size (.slice (some kad) nk nk) (kd ++ List.replicate (nk - j) 0)) ∧ iC (RW 149 wi w.heap.size (.slice (some ad) n n) (rows.set k [.slice (some kad) nk nk, y0])) ∧ iC (mZ k149 wi w.heap.size (fun b => b ≠ ad.block ∧ b < wo.heap.size) done (rows.set k [.slice (some kad) nk nk, y0])) ∧ iC (w.grownBy wi (some g))) (fun i _ => nk - (intOf i).toNat)
     case atStart => exact ⟨0, [], r1, Nat.zero_le _, rfl, ⟨Left.start _ _ _⟩, hr1, HRd3, HRI3, HS3, HD3, HG3⟩
     case round =>
      obtain ⟨j, kd, r2, hj, rfl, HLk, hrl2, HRd, HRI, HOk, HD, HGi⟩ := hrel
      clear HRd3 HRI3 HS3 HD3 HG3
      obtain ⟨xx, yy, hrow, hz0, hz1, hf0, hf1, _, hbl2, _, hset1⟩ := JW HOk.out k hkn
      rw [LQ _ _ _ (by rw [HLEN.out]; exact hkn)] at hrow
      injection hrow with hrow1 hrow2
      injection hrow2 with hrow2 _
      subst hrow1; subst hrow2
      by_cases hjn : j < nk
      ·cases hp4 : intP 4 r2 with
       | none =>
        have HP4 := iC.mk hp4
        have HF := iC.mk (Left.fail HL.out hkn (O0 HP.out (Left.fail HLk.out hjn hp4)))
        have Z0 := iC.mk hz0
        clear hp4 hset1 hz1 hf1 hz0
        go_wp2
        refine IK [30, 31, 32, 33, 34, 35, 36, 37, 38, 39] (fun i => [.slice (some ad) n n, .int .i64 (k : Int), .pointer (some (ad.add (k * 2))), .pointer (some (ad.add (k * 2))), .slice (some kad) nk nk, .int .i64 (j : Int), .pointer (some ⟨g, 0, none⟩), .int .u64 0, .int .i64 0, .pointer (some (kad.add j))].getD i undef) 7 (fun _ => False) (fun _ => False) [0, 1, 2, 3, 4, 5, 6, 7, 8, 9, 10] [0, 1, 2, 3, 4, 5, 6, 8, 9] (true, [([], []), ([], []), ([0, 1], [0, 1]), ([2], [2]), ([3], [3]), ([], []), ([], []), ([6], [6]), ([7], [7]), ([4, 5, 0, 1, 2, 3, 4, 5, 6, 7, 8], [4, 5]), ([9, 8, 7, 0, 1, 2, 3, 4, 5, 6, 7, 8], [8, 9])]) [0, 0, 3, 7, 15, 0, 0, 64, 192, 511, 1023] (by kernel_rfl) (by kernel_rfl) (by kernel_rfl) (by kernel_rfl) (by kernel_rfl) (by kernel_rfl) (by kernel_rfl) (by rfl) (by kernel_rfl) (by kernel_rfl) (by kernel_rfl) ?_ ?_ (by kernel_rfl) ?_ ?_
        ·refine jU ?_ ?_
         ·intro a w' hok ⟨hel, hd, _⟩
          have e3 : a.tmps[3]? = some (.slice (some ad) n n) := (hel 3 (by kernel_rfl)).trans (by rfl)
          refine ⟨_, rfl, rfl, fun K hK => ?_⟩
          refine iY (w1 := w') (v := .slice (some ad) n n) (by rfl) rfl ?_ hK
          go_simp
          (try simp only [iR, iQ])
          (try rfl)
          (try (unfold Go.RowKit.wrap64; omega))
         refine jU ?_ ?_
         ·intro a w' hok ⟨hel, hd, _⟩
          have e4 : a.tmps[4]? = some (.int .i64 (k : Int)) := (hel 4 (by kernel_rfl)).trans (by rfl)
          refine ⟨_, rfl, rfl, fun K hK => ?_⟩
          refine iY (w1 := w') (v := .int .i64 (k : Int)) (by rfl) rfl ?_ hK
          go_simp
          (try simp only [iR, iQ])
          (try rfl)
          (try (unfold Go.RowKit.wrap64; omega))
         refine jU ?_ ?_
         ·intro a w' hok ⟨hel, hd, _⟩
          have e30 : a.tmps[30]? = some (.slice (some ad) n n) := hd 0 (by kernel_rfl)
          have e31 : a.tmps[31]? = some (.int .i64 (k : Int)) := hd 1 (by kernel_rfl)
          refine ⟨_, rfl, rfl, fun K hK => ?_⟩
          refine iY (w1 := w') (v := .pointer (some (ad.add (k * 2)))) (by rfl) rfl ?_ hK
          go_simp
          (try simp only [iR, iQ])
          (try rfl)
          (try (unfold Go.RowKit.wrap64; omega))
         refine jU ?_ ?_
         ·intro a w' hok ⟨hel, hd, _⟩
          have e32 : a.tmps[32]? = some (.pointer (some (ad.add (k * 2)))) := hd 2 (by kernel_rfl)
          refine ⟨_, rfl, rfl, fun K hK => ?_⟩
          refine iY (w1 := w') (v := .pointer (some (ad.add (k * 2)))) (by rfl) rfl ?_ hK
          go_simp
          (try simp only [iR, iQ])
          (try rfl)
          (try (unfold Go.RowKit.wrap64; omega))
         refine jU ?_ ?_
         ·intro a w' hok ⟨hel, hd, _⟩
          have e33 : a.tmps[33]? = some (.pointer (some (ad.add (k * 2)))) := hd 3 (by kernel_rfl)
          have hz : w'.cell? (ad.add (k * 2)) = some (.slice (some kad) nk nk) := by (rcases hok with rfl | hf; exact Z0.out; exact hf.elim)
          refine ⟨_, rfl, rfl, fun K hK => ?_⟩
          refine iY (w1 := w') (v := .slice (some kad) nk nk) (by rfl) rfl ?_ hK
          go_simp
          (try simp only [iR, iQ])
          (try rfl)
          (try (unfold Go.RowKit.wrap64; omega))
         refine jU ?_ ?_
         ·intro a w' hok ⟨hel, hd, _⟩
          have e5 : a.tmps[5]? = some (.int .i64 (j : Int)) := (hel 5 (by kernel_rfl)).trans (by rfl)
          refine ⟨_, rfl, rfl, fun K hK => ?_⟩
          refine iY (w1 := w') (v := .int .i64 (j : Int)) (by rfl) rfl ?_ hK
          go_simp
          (try simp only [iR, iQ])
          (try rfl)
          (try (unfold Go.RowKit.wrap64; omega))
         refine jU ?_ ?_
         ·intro a w' hok ⟨hel, hd, _⟩
          have e0 : a.tmps[0]? = some (.pointer (some ⟨g, 0, none⟩)) := (hel 0 (by kernel_rfl)).trans (by rfl)
          refine ⟨_, rfl, rfl, fun K hK => ?_⟩
          refine iY (w1 := w') (v := .pointer (some ⟨g, 0, none⟩)) (by rfl) rfl ?_ hK
          go_simp
          (try simp only [iR, iQ])
          (try rfl)
          (try (unfold Go.RowKit.wrap64; omega))
         refine jU ?_ ?_
         ·intro a w' hok ⟨hel, hd, _⟩
          have e37 : a.tmps[37]? = some (.int .u64 0) := hd 7 (by kernel_rfl)
          refine ⟨_, rfl, rfl, fun K hK => ?_⟩
          refine iY (w1 := w') (v := .int .i64 0) (by rfl) rfl ?_ hK
          go_simp
          (try simp only [iR, iQ])
          (try rfl)
          (try (unfold Go.RowKit.wrap64; omega))
         refine jU ?_ ?_
         ·intro a w' hok ⟨hel, hd, _⟩
          have e34 : a.tmps[34]? = some (.slice (some kad) nk nk) := hd 4 (by kernel_rfl)
          have e35 : a.tmps[35]? = some (.int .i64 (j : Int)) := hd 5 (by kernel_rfl)
          refine ⟨_, rfl, rfl, fun K hK => ?_⟩
          refine iY (w1 := w') (v := .pointer (some (kad.add j))) (by rfl) rfl ?_ hK
          go_simp
          (try simp only [iR, iQ])
          (try rfl)
          (try (unfold Go.RowKit.wrap64; omega))
         exact J5
        ·intro a ⟨hel, hd, hdef⟩
         have e36 : a.tmps[36]? = some (.pointer (some ⟨g, 0, none⟩)) := hd 6 (by kernel_rfl)
         refine ⟨_, rfl, rfl, fun K hK => ?_⟩
         refine jd6 Tryz.func114 (by kernel_rfl) rfl #[.pointer (some ⟨g, 0, none⟩), (Value.int IntKind.i64 4)] (by rfl) rfl (by first | (simp only [List.map_toArray, List.map_cons, List.map_nil, Act.eval, Array.getD_eq_getD_getElem?, Option.getD_some, e36]; done) | (simp only [List.map_toArray, List.map_cons, List.map_nil, Act.eval, Array.getD_eq_getD_getElem?, Option.getD_some, e36]; rfl)) ?_
         refine (kF 4 4 rfl g r2 w0 wr.drew HRd.out (lS HP4.out)).mono ?_
         rintro e_ w2_ ⟨rfl, hG⟩
         exact ⟨_, rfl, hdef, iU HGi.out ⟨hG.os, hG.tape, hG.output, hG.size, hG.block⟩, .inr ⟨by rw [HN.out]; exact HF.out, rfl⟩⟩
        ·intro a w' hA ⟨hel, hd, _⟩
         exact hA.elim
        ·intro w' hF
         exact hF.elim
       | some x =>
        obtain ⟨x, r3⟩ := x
        obtain ⟨hs1, hx, hr3⟩ := nR hp4
        have hr3l := oW 4 _ _ _ hp4
        have HN1 := iC.mk (Left.next HLk.out hjn hp4)
        have hcall := nX 4 4 rfl (by omega) g r2 w0 wr.drew HRd.out (iW (below_grown HB.out HGi.out hg (Nat.le_refl _))) hs1
        have hsm := nS r2 4 (by omega)
        rw [← hr3] at hcall
        obtain ⟨m, hm1⟩ : ∃ m, m = numB (r2.take 4) := ⟨_, rfl⟩
        rw [← hm1] at hcall hsm hx
        subst hx
        have HCALL := iC.mk hcall
        have Z0 := iC.mk hz0
        have HBL2 := iC.mk hbl2
        clear hp4 hr3 hm1 hs1 hcall hset1 hz1 hf1 hz0
        go_wp2
        refine IK [30, 31, 32, 33, 34, 35, 36, 37, 38, 39] (fun i => [.slice (some ad) n n, .int .i64 (k : Int), .pointer (some (ad.add (k * 2))), .pointer (some (ad.add (k * 2))), .slice (some kad) nk nk, .int .i64 (j : Int), .pointer (some ⟨g, 0, none⟩), .int .u64 (m : Int), .int .i64 (m : Int), .pointer (some (kad.add j))].getD i undef) 7 (fun W => Rd w0 W g r3 ∧ wr.grownBy W (some g)) (fun W => ∃ W1, (Rd w0 W1 g r3 ∧ wr.grownBy W1 (some g)) ∧ W = W1.setCell (kad.add j) (.int .i64 (m : Int))) [0, 1, 2, 3, 4, 5, 6, 7, 8, 9, 10] [0, 1, 2, 3, 4, 5, 6, 8, 9] (true, [([], []), ([], []), ([0, 1], [0, 1]), ([2], [2]), ([3], [3]), ([], []), ([], []), ([6], [6]), ([7], [7]), ([4, 5, 0, 1, 2, 3, 4, 5, 6, 7, 8], [4, 5]), ([9, 8, 7, 0, 1, 2, 3, 4, 5, 6, 7, 8], [8, 9])]) [0, 0, 3, 7, 15, 0, 0, 64, 192, 511, 1023] (by kernel_rfl) (by kernel_rfl) (by kernel_rfl) (by kernel_rfl) (by kernel_rfl) (by kernel_rfl) (by kernel_rfl) (by rfl) (by kernel_rfl) (by kernel_rfl) (by kernel_rfl) ?_ ?_ (by kernel_rfl) ?_ ?_
        ·refine jU ?_ ?_
         ·intro a w' hok ⟨hel, hd, _⟩
          have e3 : a.tmps[3]? = some (.slice (some ad) n n) := (hel 3 (by kernel_rfl)).trans (by rfl)
          refine ⟨_, rfl, rfl, fun K hK => ?_⟩
          refine iY (w1 := w') (v := .slice (some ad) n n) (by rfl) rfl ?_ hK
          go_simp
          (try simp only [iR, iQ])
          (try rfl)
          (try (unfold Go.RowKit.wrap64; omega))
         refine jU ?_ ?_
         ·intro a w' hok ⟨hel, hd, _⟩
          have e4 : a.tmps[4]? = some (.int .i64 (k : Int)) := (hel 4 (by kernel_rfl)).trans (by rfl)
          refine ⟨_, rfl, rfl, fun K hK => ?_⟩
          refine iY (w1 := w') (v := .int .i64 (k : Int)) (by rfl) rfl ?_ hK
          go_simp
          (try simp only [iR, iQ])
          (try rfl)
          (try (unfold Go.RowKit.wrap64; omega))
         refine jU ?_ ?_
         ·intro a w' hok ⟨hel, hd, _⟩
          have e30 : a.tmps[30]? = some (.slice (some ad) n n) := hd 0 (by kernel_rfl)
          have e31 : a.tmps[31]? = some (.int .i64 (k : Int)) := hd 1 (by kernel_rfl)
          refine ⟨_, rfl, rfl, fun K hK => ?_⟩
          refine iY (w1 := w') (v := .pointer (some (ad.add (k * 2)))) (by rfl) rfl ?_ hK
          go_simp
          (try simp only [iR, iQ])
          (try rfl)
          (try (unfold Go.RowKit.wrap64; omega))
         refine jU ?_ ?_
         ·intro a w' hok ⟨hel, hd, _⟩
          have e32 : a.tmps[32]? = some (.pointer (some (ad.add (k * 2)))) := hd 2 (by kernel_rfl)
          refine ⟨_, rfl, rfl, fun K hK => ?_⟩
          refine iY (w1 := w') (v := .pointer (some (ad.add (k * 2)))) (by rfl) rfl ?_ hK
          go_simp
          (try simp only [iR, iQ])
          (try rfl)
          (try (unfold Go.RowKit.wrap64; omega))
         refine jU ?_ ?_
         ·intro a w' hok ⟨hel, hd, _⟩
          have e33 : a.tmps[33]? = some (.pointer (some (ad.add (k * 2)))) := hd 3 (by kernel_rfl)
          have hz : w'.cell? (ad.add (k * 2)) = some (.slice (some kad) nk nk) := by (rcases hok with rfl | hf; exact Z0.out; exact hf.2.cell Z0.out (by rw [show (ad.add (k * 2)).block = ad.block from by (unfold Addr.add; split <;> rfl)]; intro e; injection e with e; omega))
          refine ⟨_, rfl, rfl, fun K hK => ?_⟩
          refine iY (w1 := w') (v := .slice (some kad) nk nk) (by rfl) rfl ?_ hK
          go_simp
          (try simp only [iR, iQ])
          (try rfl)
          (try (unfold Go.RowKit.wrap64; omega))
         refine jU ?_ ?_
         ·intro a w' hok ⟨hel, hd, _⟩
          have e5 : a.tmps[5]? = some (.int .i64 (j : Int)) := (hel 5 (by kernel_rfl)).trans (by rfl)
          refine ⟨_, rfl, rfl, fun K hK => ?_⟩
          refine iY (w1 := w') (v := .int .i64 (j : Int)) (by rfl) rfl ?_ hK
          go_simp
          (try simp only [iR, iQ])
          (try rfl)
          (try (unfold Go.RowKit.wrap64; omega))
         refine jU ?_ ?_
         ·intro a w' hok ⟨hel, hd, _⟩
          have e0 : a.tmps[0]? = some (.pointer (some ⟨g, 0, none⟩)) := (hel 0 (by kernel_rfl)).trans (by rfl)
          refine ⟨_, rfl, rfl, fun K hK => ?_⟩
          refine iY (w1 := w') (v := .pointer (some ⟨g, 0, none⟩)) (by rfl) rfl ?_ hK
          go_simp
          (try simp only [iR, iQ])
          (try rfl)
          (try (unfold Go.RowKit.wrap64; omega))
         refine jU ?_ ?_
         ·intro a w' hok ⟨hel, hd, _⟩
          have e37 : a.tmps[37]? = some (.int .u64 (m : Int)) := hd 7 (by kernel_rfl)
          refine ⟨_, rfl, rfl, fun K hK => ?_⟩
          refine iY (w1 := w') (v := .int .i64 (m : Int)) (by rfl) rfl ?_ hK
          go_simp
          (try simp only [iR, iQ])
          (try rfl)
          (try (unfold Go.RowKit.wrap64; omega))
         refine jU ?_ ?_
         ·intro a w' hok ⟨hel, hd, _⟩
          have e34 : a.tmps[34]? = some (.slice (some kad) nk nk) := hd 4 (by kernel_rfl)
          have e35 : a.tmps[35]? = some (.int .i64 (j : Int)) := hd 5 (by kernel_rfl)
          refine ⟨_, rfl, rfl, fun K hK => ?_⟩
          refine iY (w1 := w') (v := .pointer (some (kad.add j))) (by rfl) rfl ?_ hK
          go_simp
          (try simp only [iR, iQ])
          (try rfl)
          (try (unfold Go.RowKit.wrap64; omega))
         exact J5
        ·intro a ⟨hel, hd, hdef⟩
         have e36 : a.tmps[36]? = some (.pointer (some ⟨g, 0, none⟩)) := hd 6 (by kernel_rfl)
         refine ⟨_, rfl, rfl, fun K hK => ?_⟩
         refine qL Tryz.func114 (by kernel_rfl) rfl #[.pointer (some ⟨g, 0, none⟩), (Value.int IntKind.i64 4)] (by rfl) rfl rfl (by first | (simp only [List.map_toArray, List.map_cons, List.map_nil, Act.eval, Array.getD_eq_getD_getElem?, Option.getD_some, e36]; done) | (simp only [List.map_toArray, List.map_cons, List.map_nil, Act.eval, Array.getD_eq_getD_getElem?, Option.getD_some, e36]; rfl)) ?_
         refine HCALL.out.mono ?_
         rintro e_ w2_ ⟨rfl, hR, hG⟩
         exact ⟨_, rfl, hK _ ⟨hR, ⟨hG.os, hG.tape, hG.output, hG.size, hG.block⟩⟩⟩
        ·intro a w' hA ⟨hel, hd, _⟩
         have e39 : a.tmps[39]? = some (.pointer (some (kad.add j))) := hd 9 (by kernel_rfl)
         have e38 : a.tmps[38]? = some (.int .i64 (m : Int)) := hd 8 (by kernel_rfl)
         obtain ⟨⟨old, ho⟩, hf, _⟩ := je2 (jS HRI.out hA.2 hlt) j hjn (m : Int)
         refine ⟨_, rfl, rfl, fun K hK => ?_⟩
         refine jh0 (w1 := w'.setCell (kad.add j) (.int .i64 (m : Int))) (by rfl) rfl ?_ (hK _ ?_)
         ·go_simp
          (try rfl)
         ·exact ⟨w', hA, rfl⟩
        ·intro w' hF
         rw [show entries [30, 31, 32, 33, 34, 35, 36, 37, 38, 39] (fun i => [.slice (some ad) n n, .int .i64 (k : Int), .pointer (some (ad.add (k * 2))), .pointer (some (ad.add (k * 2))), .slice (some kad) nk nk, .int .i64 (j : Int), .pointer (some ⟨g, 0, none⟩), .int .u64 (m : Int), .int .i64 (m : Int), .pointer (some (kad.add j))].getD i undef) = [(0, 30, .slice (some ad) n n), (1, 31, .int .i64 (k : Int)), (2, 32, .pointer (some (ad.add (k * 2)))), (3, 33, .pointer (some (ad.add (k * 2)))), (4, 34, .slice (some kad) nk nk), (5, 35, .int .i64 (j : Int)), (6, 36, .pointer (some ⟨g, 0, none⟩)), (7, 37, .int .u64 (m : Int)), (8, 38, .int .i64 (m : Int)), (9, 39, .pointer (some (kad.add j)))] from rfl]
         simp only [jV, if_true, Act.put, List.setIfInBounds_toArray, List.set_cons_zero, List.set_cons_succ, List.map_toArray, List.map_cons, List.map_nil]
         obtain ⟨W4, ⟨hR4, hG4⟩, rfl⟩ := hF
         obtain ⟨_, _, hbk, hset, hgr⟩ := je2 (jS HRI.out hG4 hlt) j hjn (m : Int)
         have HSI := iC.mk hset
         have HGI := iC.mk (kE (iU HGi.out hG4) hgr hbk)
         have HRR := iC.mk (Rd.grown hR4 hgr (by intro e; injection e with e; omega))
         have HOI := iC.mk (O3 (jS HOk.out hG4 hlt) rfl hgr (by simp [Value.ownBlock]; exact HKB.out.1))
         have HDI := iC.mk (mZ.other (mZ.grown HD.out hG4 hlt) hgr (fun b hb e => by have := HKB.out.2; omega))
         clear hset hgr hR4 hG4 hbk
         go_wp2
         go_roundw
         case rel => exact ⟨j + 1, kd ++ [(m : Int)], r3, by omega, by go_num, HN1, by omega, HRR, ⟨by rw [← OQ _ _ _ _ _ HLk.out.1 hjn]; exact HSI.out⟩, HOI, HDI, HGI⟩
         case measure => simp [intOf]; omega
      ·obtain rfl : j = nk := by omega
       have hRI := HRI.out
       rw [Nat.sub_self, List.replicate_zero, List.append_nil] at hRI
       have hL4 := Left.done HLk.out
       cases hp8 : number 8 r2 with
       | none =>
        have hcall := kF 8 8 rfl g r2 w0 wr HRd.out (uU hp8)
        have HF := iC.mk (Left.fail HL.out hkn (OU HP.out hL4 hp8))
        clear hp8 hL4 hset1 hRI
        go_wp2_with (go_at_call 114; refine hcall.mono ?_; rintro e w4 ⟨rfl, hG⟩)
        exact ⟨rfl, iU HGi.out hG, .inr ⟨by rw [HN.out]; exact HF.out, rfl⟩⟩
       | some x =>
        obtain ⟨m, r3⟩ := x
        obtain ⟨hs8, hm8, hr8⟩ := nM hp8
        have HN1 := iC.mk (Left.next HL.out hkn (JA HP.out hL4 hp8))
        have hcall := nX 8 8 rfl (by omega) g r2 w0 wr HRd.out (below_grown HB.out HGi.out hg (Nat.le_refl _)) hs8
        rw [← hm8, ← hr8] at hcall
        have hmb : m < 18446744073709551616 := by rw [hm8]; exact jb5 _
        have hw64 := QN m hmb
        have hr3l : (r3.length : Int) ≤ 100000 := by rw [hr8, List.length_drop]; omega
        have HRIx := iC.mk hRI
        have HMB := iC.mk hmb
        have hmI : (m : Int) < 18446744073709551616 := by omega
        clear hp8 hL4 hset1 hRI hm8 hr8 hs8 hmb hz0 hz1 hf0 hf1 hbl2
        go_wp2_with (go_at_call 114; refine hcall.mono ?_; rintro e w4 ⟨rfl, hR, hG⟩; obtain ⟨xx, yy, hrow, hz0, hz1, hf0, hf1, _, hbl2, _, hset1⟩ := JW (jS HOk.out hG hlt) k hkn; rw [LQ _ _ _ (by rw [HLEN.out]; exact hkn)] at hrow; injection hrow with hrow1 hrow2; subst hrow1; clear hrow2; have HSET1 := iC.mk hset1; have HR4 := iC.mk hR; have HG4 := iC.mk hG; clear hset1 hR hG hz0 hf0)
        obtain ⟨hsV, hgV⟩ := HSET1.out (.int .i64 (s64 m)) rfl
        rw [List.set_set] at hsV
        have HGV := iC.mk (kE (iU HGi.out HG4.out) hgV hbs)
        have HRV := iC.mk (Rd.grown HR4.out hgV (by intro e; injection e with e; omega))
        have hRIk := Kd.R_tight rfl (O3 (jS HRIx.out HG4.out hlt) rfl hgV (by simp [Value.ownBlock]; intro e; exact HKB.out.1 e.symm))
        have hDk := (mZ.other (mZ.grown HD.out HG4.out hlt) hgV (fun b hb => hb.1)).mono (fun b hb => hb.1)
        have hDk' := hDk.set (k := k) (by rw [HL.out.1]; exact Nat.le_refl _) [.slice (some kad) j j, .int .i64 (s64 m)]
        rw [List.set_set] at hDk'
        have hDone := hDk'.snoc (x := ⟨kd, s64 m⟩) (c := [.slice (some kad) j j, .int .i64 (s64 m)]) (by rw [HL.out.1]; exact List.getElem?_set_self (by rw [HLEN.out]; exact hkn)) (QE _ _ _ ⟨kd, s64 m⟩ (Kd.R_mono hRIk (fun b hb => by
         have hb' : kad.block = b := by simpa [Value.ownBlock] using hb.symm
         rw [← hb']; exact HKB.out.1)))
        have HDONE := iC.mk hDone
        have HSV := iC.mk hsV
        have HLEN2 := iC.mk (show (rows.set k [.slice (some kad) j j, .int .i64 (s64 m)]).length = n from by rw [List.length_set]; exact HLEN.out)
        clear hsV hgV hRIk hDk hDk' hDone hcall
        go_roundw
        case rel => exact ⟨k + 1, done ++ [⟨kd, s64 m⟩], r3, _, by omega, by go_num, HN1, hr3l, HRV, HSV, HLEN2, HDONE, HGV⟩
        case measure => simp [intOf]; omega
   ·obtain rfl : k = n := by omega
    go_wp2
    go_ret
    refine ⟨HGk.out, .inl ⟨done, r, _, by rw [HN.out]; exact Left.done HL.out, rfl, ?_, HRd.out⟩⟩
    refine JR rfl HOk.out (by rw [HL.out.1, HLEN.out]) (fun _ _ => trivial) (fun j p c hj hc => ?_)
    exact k149.M_mono (fun b hb => ⟨trivial, by simp [Value.ownBlock]; exact hb⟩) (HD.out j p c hj hc)
end Go.Proofs.YtgfkgppomaapiaaGreatDoor.K
end

section
namespace Go.Proofs.YtgfkgppomaapiaaGreatDoor.K
open RowKit YtgfkgppomaapiaaGreatDoorW.PrintWords YtgfkgppomaapiaaGreatDoorW.PrintLast YtgfkgppomaapiaaGreatDoorW.PrintMore My
theorem ML {r : List UInt8} (h : intP 4 r = none) : mW r = none := by unfold mW; rw [h]; rfl
theorem NP {r r1 : List UInt8} {x : Int} (h : intP 4 r = some (x, r1)) (h1 : mV r1 = none) : mW r = none := by unfold mW; rw [h]; simp only [Option.bind_some]; rw [h1]; rfl
theorem PY {r r1 r2 : List UInt8} {x : Int} {fs : List jR} (h : intP 4 r = some (x, r1)) (h1 : mV r1 = some (fs, r2)) : mW r = some (⟨x, fs⟩, r2) := by unfold mW; rw [h]; simp only [Option.bind_some]; rw [h1]; rfl
theorem uZ : Short mV := fun l x r h => by
 unfold mV at h
 obtain ⟨⟨n, r1⟩, h1, h⟩ := Option.bind_eq_some_iff.1 h
 have a := (mJ h1 (by omega)).1
 have b := qF UB n _ _ _ h
 simp only at a b
 omega
set_option maxRecDepth 20000 in
set_option maxHeartbeats 8000000 in
theorem yI (g : Nat) (l : List UInt8) (w0 w : World) (h : Rd w0 w g l) (hb : Below w0.heap.size w0 w) (hg : w0.heap.size ≤ g) (hm : (l.length : Int) ≤ 100000) :
  Calls Tryz.prog 118 #[.pointer (some ⟨g, 0, none⟩)] w (PP (kY l) (fun xs v w' => Kd.R k114 114 w' w.heap.size (fun _ => True) v xs) w0 w g) := by
 have HR := iC.mk h
 have HB := iC.mk hb
 have hlt := h.lt
 clear h hb
 cases hmy : many 4 8 l with
 | none =>
  have hn : kY l = none := by unfold kY; rw [hmy]; rfl
  have hcall := qI 4 8 4 8 rfl rfl (by omega) (by omega) g l w0 w HR.out HB.out hg hmy
  have HN := iC.mk hn
  clear hmy hn
  go_enter Tryz.func118, Tryz.ntmps118
  go_wp2_with (go_at_call 122; refine hcall.mono ?_; rintro e w1 ⟨rfl, hG⟩)
  exact ⟨rfl, hG, .inr ⟨HN.out, rfl⟩⟩
 | some x =>
  obtain ⟨n, r0⟩ := x
  have hn : kY l = repP mW n r0 := by unfold kY; rw [hmy]; rfl
  have hcall := zD 4 8 4 8 rfl rfl (by omega) (by omega) g l r0 n w0 w HR.out HB.out hg hmy
  have HN := iC.mk hn
  obtain ⟨hl1, hl2⟩ := mJ hmy (by omega)
  have hn1 : (n : Int) ≤ 100000 := by omega
  have hr0 : (r0.length : Int) ≤ 100000 := by omega
  have hmk := vS (t := 52) (e := 114) Tryz.underlying52 jd_ (by omega) n hn1
  clear hmy hn hl1 hl2
  go_enter Tryz.func118, Tryz.ntmps118
  go_wp2_with (go_at_call 122; refine hcall.mono ?_; rintro e w1 ⟨rfl, hR, hG, hle⟩; clear hle; have HR1 := iC.mk hR; have HG1 := iC.mk hG; clear hR hG)
  have HO := iC.mk (V8 (e := 114) (W := w1) (n := n) (base := w.heap.size) (x := .int .u32 0) (y := .slice none 0 0) rfl rfl (by omega) HG1.out.size)
  have HG := iC.mk (iU HG1.out (grown_below (iD (Below.refl _ _) (.cells (madeCells #[.int .u32 0, .slice none 0 0] (n * 2)) 114))))
  have HR2 := iC.mk (Rd.grown HR1.out (grown_below (row := none) (iD (Below.refl _ _) (.cells (madeCells #[.int .u32 0, .slice none 0 0] (n * 2)) 114))) (by simp))
  clear HR1 HG1 hcall hmk
  obtain ⟨ad, had⟩ : ∃ ad : Addr, ad = ⟨w1.heap.size, 0, none⟩ := ⟨_, rfl⟩
  rw [← had] at HO ⊢
  obtain ⟨W2, hW⟩ : ∃ W2, W2 = w1.alloc (.cells (madeCells #[.int .u32 0, .slice none 0 0] (n * 2)) 114) := ⟨_, rfl⟩
  rw [← hW] at HO HG HR2
  first | rw [← hW] | (rw [show w1.alloc (.cells (madeCells (Value.agg #[.int .u32 0, .slice none 0 0]).cells (n * 2)) 114) = W2 from hW.symm])
  clear hW had
  go_loopw [10] (fun i wr => ∃ (k : Nat) (done : List jL) (r : List UInt8) (rows : List (List Value)), k ≤ n ∧ i = .int .i64 k ∧ iC (Left mW n k r0 r done) ∧ (r.length : Int) ≤ 100000 ∧ iC (Rd w0 wr g r) ∧ iC (RW 114 wr w.heap.size (.slice (some ad) n n) rows) ∧ iC (rows.length = n) ∧ iC (mZ k114 wr w.heap.size (fun b => b ≠ ad.block) done rows) ∧ iC (w.grownBy wr (some g))) (fun i _ => n - (intOf i).toNat)
  case atStart => exact ⟨0, [], r0, _, Nat.zero_le _, rfl, ⟨Left.start _ _ _⟩, hr0, HR2, HO, ⟨List.length_replicate⟩, ⟨fun j p c hj _ => by simp at hj⟩, HG⟩
  case round =>
   obtain ⟨k, done, r, rows, hk, rfl, HL, hrl, HRd, HOk, HLEN, HD, HGk⟩ := hrel
   clear HR2 HO HG
   by_cases hkn : k < n
   ·cases hp : intP 4 r with
    | none =>
     have hcall := kF 4 4 rfl g r w0 wr HRd.out (lS hp)
     have HF := iC.mk (Left.fail HL.out hkn (ML hp))
     clear hp
     go_wp2_with (go_at_call 114; refine hcall.mono ?_; rintro e w2 ⟨rfl, hG⟩)
     exact ⟨rfl, iU HGk.out hG, .inr ⟨by rw [HN.out]; exact HF.out, rfl⟩⟩
    | some x =>
     obtain ⟨x, r1⟩ := x
     obtain ⟨hs1, hx, hr1⟩ := nR hp
     have hr1l := oW 4 _ _ _ hp
     have hr1I : (r1.length : Int) ≤ 100000 := by omega
     have hcall := nX 4 4 rfl (by omega) g r w0 wr HRd.out (below_grown HB.out HGk.out hg (Nat.le_refl _)) hs1
     have hsm := nS r 4 (by omega)
     rw [← hr1] at hcall
     obtain ⟨m, hm1⟩ : ∃ m, m = numB (r.take 4) := ⟨_, rfl⟩
     rw [← hm1] at hcall hsm hx
     subst hx
     have HP := iC.mk hp
     clear hr1 hm1 hs1 hp hr1l
     go_wp2_with fail
     refine hcall.mono ?_
     rintro e w2 ⟨rfl, hR, hG⟩
     obtain ⟨x0, y0, hrow, z0, z1, f0, f1, hbs, hbl, hset0, _⟩ := JW (jS HOk.out hG hlt) k hkn
     obtain ⟨hs0, hg0⟩ := hset0 (.int .u32 (m : Int)) rfl
     have HGR := iC.mk (kE (iU HGk.out hG) hg0 hbs)
     have HRR := iC.mk (Rd.grown hR hg0 (by (intro e; injection e with e; omega)))
     have HS0 := iC.mk hs0
     have HD0 := iC.mk ((mZ.other (mZ.grown HD.out hG hlt) hg0 (fun b hb => hb)).set (k := k) (by rw [HL.out.1]; exact Nat.le_refl _) [.int .u32 (m : Int), y0])
     clear hset0 hs0 hg0 hR hG hrow z1 f1 hcall
     go_wp2_with fail
     refine (xM g r1 w0 _ HRR.out (below_grown HB.out HGR.out hg (Nat.le_refl _)) hg hr1I).mono ?_
     intro e w3 hpp
     cases hp2 : mV r1 with
     | none =>
      obtain ⟨rfl, hG⟩ := hpp.short hp2
      have HF := iC.mk (Left.fail HL.out hkn (NP HP.out hp2))
      clear hp2 hpp
      go_wp2
      exact ⟨rfl, iU HGR.out hG, .inr ⟨by rw [HN.out]; exact HF.out, rfl⟩⟩
     | some y =>
      obtain ⟨fs, r2⟩ := y
      obtain ⟨v, rfl, hv, hR, hG⟩ := hpp.ok hp2
      have HN1 := iC.mk (Left.next HL.out hkn (PY HP.out hp2))
      have hr2l := uZ _ _ _ hp2
      have hr2I : (r2.length : Int) ≤ 100000 := by omega
      obtain ⟨x1, y1, hrow, z0', z1, f0', f1, hbs1, hbl1, _, hset1⟩ := JW (jS HS0.out hG hlt) k hkn
      rw [LQ _ _ _ (by rw [HLEN.out]; exact hkn)] at hrow
      injection hrow with hrow1 hrow2
      subst hrow1
      obtain ⟨Av, cv, rfl⟩ := Kd.R_slice hv
      obtain ⟨hs1, hg1⟩ := hset1 (.slice Av fs.length cv) rfl
      rw [List.set_set] at hs1
      have hvb := Kd.R_lower (Kd.R_mono (Kd.R_bound hv) (ok' := fun b => b ≠ ad.block) (fun b hb => by have := hb.2.1; simp at this; omega)) (HGR.out.size)
      have hvb1 := Kd.R_grown hvb hg1 (fun b hb e => hb (by injection e))
      have hDk := (mZ.other (mZ.grown HD0.out hG hlt) hg1 (fun b hb => hb)).set (k := k) (by rw [HL.out.1]; exact Nat.le_refl _) [.int .u32 (m : Int), .slice Av fs.length cv]
      rw [List.set_set] at hDk
      have hDone := hDk.snoc (x := ⟨(m : Int), fs⟩) (c := [.int .u32 (m : Int), .slice Av fs.length cv]) (by rw [HL.out.1]; exact List.getElem?_set_self (by rw [HLEN.out]; exact hkn)) (QC _ _ _ ⟨(m : Int), fs⟩ hvb1)
      have HDONE := iC.mk hDone
      have HSV := iC.mk hs1
      have HGV := iC.mk (kE (iU HGR.out hG) hg1 hbs1)
      have HRV := iC.mk (Rd.grown hR hg1 (by (intro e; injection e with e; omega)))
      have HLEN2 := iC.mk (show (rows.set k [.int .u32 (m : Int), .slice Av fs.length cv]).length = n from by rw [List.length_set]; exact HLEN.out)
      clear hset1 hs1 hg1 hR hG hrow2 z0 f0 z0' f0' hv hvb hvb1 hDk hDone hpp hp2 hr2l
      go_wp2
      go_roundw
      case rel => exact ⟨k + 1, done ++ [⟨(m : Int), fs⟩], r2, _, by omega, by go_num, HN1, hr2I, HRV, HSV, HLEN2, HDONE, HGV⟩
      case measure => simp [intOf]; omega
   ·obtain rfl : k = n := by omega
    go_wp2
    go_ret
    refine ⟨HGk.out, .inl ⟨done, r, _, by rw [HN.out]; exact Left.done HL.out, rfl, ?_, HRd.out⟩⟩
    refine JR rfl HOk.out (by rw [HL.out.1, HLEN.out]) (fun _ _ => trivial) (fun j p c hj hc => ?_)
    exact k114.M_mono (fun b hb => ⟨trivial, by simp [Value.ownBlock]; exact hb⟩) (HD.out j p c hj hc)
end Go.Proofs.YtgfkgppomaapiaaGreatDoor.K
end

section
namespace Go.Proofs.YtgfkgppomaapiaaGreatDoor.K
open RowKit YtgfkgppomaapiaaGreatDoorW.PrintWords YtgfkgppomaapiaaGreatDoorW.PrintLast YtgfkgppomaapiaaGreatDoorW.PrintMore My
theorem uB (s : Nat) (S : Int) (hS : S = s) (hs8 : s ≤ 8) {g : Nat} {l r : List UInt8} {x : Int} {w0 w : World} (h : Rd w0 w g l) (hb : Below w0.heap.size w0 w) (hp : intP s l = some (x, r)) :
  ∃ m : Nat, x = (m : Int) ∧ m < 256 ^ s ∧ r.length + s = l.length ∧ Calls Tryz.prog 114 #[.pointer (some ⟨g, 0, none⟩), .int .i64 S] w fun e w' => e = .returned (.int .u64 (m : Int)) ∧ Rd w0 w' g r ∧ w.grownBy w' (some g) := by
 obtain ⟨h1, h2, h3⟩ := nR hp
 refine ⟨numB (l.take s), h2, ?_, ?_, ?_⟩
 ·have := xJ (l.take s)
  rwa [List.length_take, Nat.min_eq_left h1] at this
 ·rw [h3, List.length_drop]; omega
 ·rw [h3]; exact nX s S hS hs8 g l w0 w h hb h1
theorem xK {l : List UInt8} (h : intP 1 l = none) : recP l = none := by unfold recP; rw [h]; rfl
theorem IP {l r : List UInt8} {x : Int} (h : intP 1 l = some (x, r)) (h1 : intP 4 r = none) : recP l = none := by unfold recP; rw [h]; simp only [Option.bind_some]; rw [h1]; rfl
theorem NJ {l r r1 : List UInt8} {x y : Int} (h : intP 1 l = some (x, r)) (h1 : intP 4 r = some (y, r1)) : recP l = oK x y r1 := by unfold recP; rw [h]; simp only [Option.bind_some]; rw [h1]; rfl
theorem I7 : Short nN := fun l x r h => by
 unfold nN at h
 obtain ⟨⟨n, r1⟩, h1, h⟩ := Option.bind_eq_some_iff.1 h
 have a := (mJ h1 (by omega)).1
 have b := qF (oW 1) n _ _ _ h
 simp only at a b
 omega
theorem PE : Short pU := fun l x r h => by
 unfold pU at h
 obtain ⟨⟨n, r1⟩, h1, h⟩ := Option.bind_eq_some_iff.1 h
 have a := (mJ h1 (by omega)).1
 have b := qF (p := rE) (fun l x r h => by
  unfold rE at h
  obtain ⟨⟨x1, r1⟩, h1, h⟩ := Option.bind_eq_some_iff.1 h
  obtain ⟨⟨x2, r2⟩, h2, h⟩ := Option.bind_eq_some_iff.1 h
  injection h with h
  injection h with e1 e2
  subst e2
  have a := oW 4 _ _ _ h1
  have b := oW 1 _ _ _ h2
  exact Nat.le_trans b a) n _ _ _ h
 simp only at a b
 omega
theorem JK : Short kY := fun l x r h => by
 unfold kY at h
 obtain ⟨⟨n, r1⟩, h1, h⟩ := Option.bind_eq_some_iff.1 h
 have a := (mJ h1 (by omega)).1
 have b := qF (p := mW) (fun l x r h => by
  unfold mW at h
  obtain ⟨⟨x1, r1⟩, h1, h⟩ := Option.bind_eq_some_iff.1 h
  obtain ⟨⟨x2, r2⟩, h2, h⟩ := Option.bind_eq_some_iff.1 h
  injection h with h
  injection h with e1 e2
  subst e2
  have a := oW 4 _ _ _ h1
  have b := uZ _ _ _ h2
  exact Nat.le_trans b a) n _ _ _ h
 simp only at a b
 omega
theorem jP (w : World) (b : Nat) (cs : Array Value) : w.grownBy (w.setRow b cs) (some b) := ⟨rfl, rfl, rfl, by simp, fun k _ hne => setRow_other w b k cs (fun e => hne (by rw [e]))⟩
structure RInv (w0 w W : World) (g b : Nat) (r : List UInt8) (cs : Array Value) : Prop where
 rd : Rd w0 W g r
 gr : w.grownBy W (some g)
 bl : Below w0.heap.size w0 W
 x : W.heap[b]? = some (.cells cs 54 (0, 0))
 res : W.heap[w.heap.size]? = some (.cells #[.int .u8 0, .int .u32 0, .int .u32 0, .slice none 0 0, .slice none 0 0, .int .u32 0, .slice none 0 0, .int .i64 0, .int .i64 0, .slice none 0 0] 54 (0, 0))
 lt : g < w.heap.size
 le : w.heap.size < b
 small : (r.length : Int) ≤ 100000
 hg : w0.heap.size ≤ g
theorem RInv.call {w0 w W W' : World} {g b : Nat} {r r' : List UInt8} {cs : Array Value} (h : RInv w0 w W g b r cs) (hR : Rd w0 W' g r') (hG : W.grownBy W' (some g)) (hl : r'.length ≤ r.length) : RInv w0 w W' g b r' cs :=
 ⟨hR, iU h.gr hG, below_grown h.bl hG h.hg (Nat.le_refl _), (hG.block b (jC h.x) (fun e => by injection e with e; have := h.lt; have := h.le; omega)).trans h.x, (hG.block _ (jC h.res) (fun e => by injection e with e; have := h.lt; omega)).trans h.res, h.lt, h.le, by have := h.small; omega, h.hg⟩
theorem RInv.store {w0 w W : World} {g b : Nat} {r : List UInt8} {cs : Array Value} (h : RInv w0 w W g b r cs) (cs' : Array Value) : RInv w0 w (W.setRow b cs') g b r cs' := by
 have h1 := h.lt
 have h2 := h.le
 have h3 := h.hg
 refine ⟨Rd.grown h.rd (jP W b cs') (fun e => by injection e with e; omega), kE h.gr (jP W b cs') (by omega), below_grown h.bl (jP W b cs') (by omega) (Nat.le_refl _), setRow_heap W b cs cs' _ _ h.x, ?_, h1, h2, h.small, h3⟩
 rw [setRow_other W b _ cs' (by omega)]
 exact h.res
theorem RInv.fin {w0 w W : World} {g b : Nat} {r : List UInt8} {cs : Array Value} (h : RInv w0 w W g b r cs) (cs' : Array Value) : w.grownBy (W.setRow w.heap.size cs') (some g) ∧ Rd w0 (W.setRow w.heap.size cs') g r :=
 ⟨kE h.gr (jP W _ cs') (Nat.le_refl _), Rd.grown h.rd (jP W _ cs') (fun e => by injection e with e; have := h.lt; omega)⟩
theorem RInv.fresh {w0 w W : World} {g b : Nat} {r : List UInt8} {cs : Array Value} (h : RInv w0 w W g b r cs) : b < W.heap.size := jC h.x
def RecV (base : Nat) (x : SRec) (v : Value) (w' : World) : Prop :=
 ∃ v3 v4 v6 v9, v = .agg #[.int .u8 x.f0, .int .u32 x.f1, .int .u32 x.f2, v3, v4, .int .u32 x.f5.f0, v6, .int .i64 x.f6, .int .i64 x.f7, v9] ∧
  Kd.R (Kd.int .i64) 3 w' base (fun _ => True) v3 x.f3 ∧ Kd.R k149 149 w' base (fun k => some k ≠ v3.ownBlock) v4 x.f4 ∧
  Kd.R k122 122 w' base (fun _ => True) v6 x.f5.f1 ∧ Kd.R k114 114 w' base (fun k => some k ≠ v3.ownBlock ∧ some k ≠ v4.ownBlock) v9 x.f8
theorem VK (a b : Int) : (Tryz.prog).built 54 (#[(0, .int .u8 a), (1, .int .u32 b)] : Array (Nat × Value)).toList = some #[.int .u8 a, .int .u32 b, .int .u32 0, .slice none 0 0, .slice none 0 0, .int .u32 0, .slice none 0 0, .int .i64 0, .int .i64 0, .slice none 0 0] := by kernel_rfl
section
variable {w : World} {b : Nat} {c0 c1 c2 c3 c4 c5 c6 c7 c8 c9 : Value}
theorem jc3 (h : w.heap[b]? = some (.cells #[c0, c1, c2, c3, c4, c5, c6, c7, c8, c9] 54 (0, 0))) : (Instr.loadAt 5 (.pointer (some ⟨b, 0, none⟩))).run Tryz.prog w = .ok c0 w := by
 have z0 : w.cell? ⟨b, 0, none⟩ = some c0 := (iH h 0).trans rfl
 simp [go_sem, z0]
theorem st_2 (x : Int) (h : w.heap[b]? = some (.cells #[c0, c1, c2, c3, c4, c5, c6, c7, c8, c9] 54 (0, 0))) : (Instr.storeAt 46 (.pointer (some ⟨b, 2, none⟩)) (.int .u32 x)).run Tryz.prog w = .ok () (w.setRow b #[c0, c1, .int .u32 x, c3, c4, c5, c6, c7, c8, c9]) := by
 have z : w.cell? ⟨b, 2, none⟩ = some c2 := (iH h 2).trans rfl
 have y : w.frozen? ⟨b, 2, none⟩ = false := iG h 2
 rw [show w.setRow b #[c0, c1, .int .u32 x, c3, c4, c5, c6, c7, c8, c9] = w.setCell ⟨b, 2, none⟩ (.int .u32 x) from (setCell_eq_setRow w b 2 _ _ _ (.int .u32 x) h).symm]
 simp [go_sem, z, y]
theorem st_3 (A : Option Addr) (n c : Nat) (h : w.heap[b]? = some (.cells #[c0, c1, c2, c3, c4, c5, c6, c7, c8, c9] 54 (0, 0))) : (Instr.storeAt 47 (.pointer (some ⟨b, 3, none⟩)) (.slice A n c)).run Tryz.prog w = .ok () (w.setRow b #[c0, c1, c2, .slice A n c, c4, c5, c6, c7, c8, c9]) := by
 have z : w.cell? ⟨b, 3, none⟩ = some c3 := (iH h 3).trans rfl
 have y : w.frozen? ⟨b, 3, none⟩ = false := iG h 3
 rw [show w.setRow b #[c0, c1, c2, .slice A n c, c4, c5, c6, c7, c8, c9] = w.setCell ⟨b, 3, none⟩ (.slice A n c) from (setCell_eq_setRow w b 3 _ _ _ (.slice A n c) h).symm]
 simp [go_sem, z, y]
theorem st_4 (A : Option Addr) (n c : Nat) (h : w.heap[b]? = some (.cells #[c0, c1, c2, c3, c4, c5, c6, c7, c8, c9] 54 (0, 0))) : (Instr.storeAt 48 (.pointer (some ⟨b, 4, none⟩)) (.slice A n c)).run Tryz.prog w = .ok () (w.setRow b #[c0, c1, c2, c3, .slice A n c, c5, c6, c7, c8, c9]) := by
 have z : w.cell? ⟨b, 4, none⟩ = some c4 := (iH h 4).trans rfl
 have y : w.frozen? ⟨b, 4, none⟩ = false := iG h 4
 rw [show w.setRow b #[c0, c1, c2, c3, .slice A n c, c5, c6, c7, c8, c9] = w.setCell ⟨b, 4, none⟩ (.slice A n c) from (setCell_eq_setRow w b 4 _ _ _ (.slice A n c) h).symm]
 simp [go_sem, z, y]
theorem st_5 (x : Int) (h : w.heap[b]? = some (.cells #[c0, c1, c2, c3, c4, c5, c6, c7, c8, c9] 54 (0, 0))) : (Instr.storeAt 46 (.pointer (some ⟨b, 5, none⟩)) (.int .u32 x)).run Tryz.prog w = .ok () (w.setRow b #[c0, c1, c2, c3, c4, .int .u32 x, c6, c7, c8, c9]) := by
 have z : w.cell? ⟨b, 5, none⟩ = some c5 := (iH h 5).trans rfl
 have y : w.frozen? ⟨b, 5, none⟩ = false := iG h 5
 rw [show w.setRow b #[c0, c1, c2, c3, c4, .int .u32 x, c6, c7, c8, c9] = w.setCell ⟨b, 5, none⟩ (.int .u32 x) from (setCell_eq_setRow w b 5 _ _ _ (.int .u32 x) h).symm]
 simp [go_sem, z, y]
theorem st_6 (A : Option Addr) (n c : Nat) (h : w.heap[b]? = some (.cells #[c0, c1, c2, c3, c4, c5, c6, c7, c8, c9] 54 (0, 0))) : (Instr.storeAt 49 (.pointer (some ⟨b, 6, none⟩)) (.slice A n c)).run Tryz.prog w = .ok () (w.setRow b #[c0, c1, c2, c3, c4, c5, .slice A n c, c7, c8, c9]) := by
 have z : w.cell? ⟨b, 6, none⟩ = some c6 := (iH h 6).trans rfl
 have y : w.frozen? ⟨b, 6, none⟩ = false := iG h 6
 rw [show w.setRow b #[c0, c1, c2, c3, c4, c5, .slice A n c, c7, c8, c9] = w.setCell ⟨b, 6, none⟩ (.slice A n c) from (setCell_eq_setRow w b 6 _ _ _ (.slice A n c) h).symm]
 simp [go_sem, z, y]
theorem st_7 (x : Int) (h : w.heap[b]? = some (.cells #[c0, c1, c2, c3, c4, c5, c6, c7, c8, c9] 54 (0, 0))) : (Instr.storeAt 3 (.pointer (some ⟨b, 7, none⟩)) (.int .i64 x)).run Tryz.prog w = .ok () (w.setRow b #[c0, c1, c2, c3, c4, c5, c6, .int .i64 x, c8, c9]) := by
 have z : w.cell? ⟨b, 7, none⟩ = some c7 := (iH h 7).trans rfl
 have y : w.frozen? ⟨b, 7, none⟩ = false := iG h 7
 rw [show w.setRow b #[c0, c1, c2, c3, c4, c5, c6, .int .i64 x, c8, c9] = w.setCell ⟨b, 7, none⟩ (.int .i64 x) from (setCell_eq_setRow w b 7 _ _ _ (.int .i64 x) h).symm]
 simp [go_sem, z, y]
theorem st_8 (x : Int) (h : w.heap[b]? = some (.cells #[c0, c1, c2, c3, c4, c5, c6, c7, c8, c9] 54 (0, 0))) : (Instr.storeAt 3 (.pointer (some ⟨b, 8, none⟩)) (.int .i64 x)).run Tryz.prog w = .ok () (w.setRow b #[c0, c1, c2, c3, c4, c5, c6, c7, .int .i64 x, c9]) := by
 have z : w.cell? ⟨b, 8, none⟩ = some c8 := (iH h 8).trans rfl
 have y : w.frozen? ⟨b, 8, none⟩ = false := iG h 8
 rw [show w.setRow b #[c0, c1, c2, c3, c4, c5, c6, c7, .int .i64 x, c9] = w.setCell ⟨b, 8, none⟩ (.int .i64 x) from (setCell_eq_setRow w b 8 _ _ _ (.int .i64 x) h).symm]
 simp [go_sem, z, y]
theorem st_9 (A : Option Addr) (n c : Nat) (h : w.heap[b]? = some (.cells #[c0, c1, c2, c3, c4, c5, c6, c7, c8, c9] 54 (0, 0))) : (Instr.storeAt 52 (.pointer (some ⟨b, 9, none⟩)) (.slice A n c)).run Tryz.prog w = .ok () (w.setRow b #[c0, c1, c2, c3, c4, c5, c6, c7, c8, .slice A n c]) := by
 have z : w.cell? ⟨b, 9, none⟩ = some c9 := (iH h 9).trans rfl
 have y : w.frozen? ⟨b, 9, none⟩ = false := iG h 9
 rw [show w.setRow b #[c0, c1, c2, c3, c4, c5, c6, c7, c8, .slice A n c] = w.setCell ⟨b, 9, none⟩ (.slice A n c) from (setCell_eq_setRow w b 9 _ _ _ (.slice A n c) h).symm]
 simp [go_sem, z, y]
end
theorem qB {w : World} {b : Nat} {cs : Array Value} (h : w.heap[b]? = some (.cells cs 54 (0, 0))) (hs : cs.size = 10) : (Instr.loadAt 54 (.pointer (some ⟨b, 0, none⟩))).run Tryz.prog w = .ok (.agg cs) w := by
 simp only [Instr.loadAt, Instr.sureAddr, Sem.run_bind, Sem.run_pure, Result.andThen]
 exact run_loadVar_row w b 54 54 cs (0, 0) _ h Tryz.underlying54 rfl (by rw [hs]; kernel_rfl)
theorem nZ {w : World} {b : Nat} {c0 c1 c2 c3 c4 c5 c6 c7 c8 c9 : Value} {a k i : Int} {x3 x4 x6 x9 : Value} {j p q : Int} (h : w.heap[b]? = some (.cells #[c0, c1, c2, c3, c4, c5, c6, c7, c8, c9] 54 (0, 0))) (o3 : x3.oneCell' = true) (o4 : x4.oneCell' = true) (o6 : x6.oneCell' = true) (o9 : x9.oneCell' = true) :
  (Instr.storeAt 54 (.pointer (some ⟨b, 0, none⟩)) (.agg #[.int .u8 a, .int .u32 k, .int .u32 i, x3, x4, .int .u32 j, x6, .int .i64 p, .int .i64 q, x9])).run Tryz.prog w = .ok () (w.setRow b #[.int .u8 a, .int .u32 k, .int .u32 i, x3, x4, .int .u32 j, x6, .int .i64 p, .int .i64 q, x9]) := by
 simp only [Instr.storeAt, Instr.sureAddr, Sem.run_bind, Sem.run_pure, Result.andThen]
 exact run_storeVar_row w b 54 54 _ _ h (by kernel_rfl) rfl (by simp [o3, o4, o6, o9, show ∀ k n, (Value.int k n).oneCell' = true from fun _ _ => rfl])
theorem jf1 (w : World) (a k : Int) : (Instr.storeAt 54 (.pointer (some ⟨w.heap.size, 0, none⟩)) (.agg #[.int .u8 a, .int .u32 k, .int .u32 0, .slice none 0 0, .slice none 0 0, .int .u32 0, .slice none 0 0, .int .i64 0, .int .i64 0, .slice none 0 0])).run Tryz.prog (w.alloc (.cells #[.int .u8 0, .int .u32 0, .int .u32 0, .slice none 0 0, .slice none 0 0, .int .u32 0, .slice none 0 0, .int .i64 0, .int .i64 0, .slice none 0 0] 54)) = .ok () (w.alloc (.cells #[.int .u8 a, .int .u32 k, .int .u32 0, .slice none 0 0, .slice none 0 0, .int .u32 0, .slice none 0 0, .int .i64 0, .int .i64 0, .slice none 0 0] 54)) :=
 run_storeAt_new (P := Tryz.prog) w 54 #[.int .u8 0, .int .u32 0, .int .u32 0, .slice none 0 0, .slice none 0 0, .int .u32 0, .slice none 0 0, .int .i64 0, .int .i64 0, .slice none 0 0] #[.int .u8 a, .int .u32 k, .int .u32 0, .slice none 0 0, .slice none 0 0, .int .u32 0, .slice none 0 0, .int .i64 0, .int .i64 0, .slice none 0 0] (by kernel_rfl) rfl (by simp [Value.oneCell'])
theorem j04 (w : World) (a k : Int) : (Instr.build 54 #[(0, .int .u8 a), (1, .int .u32 k)]).run Tryz.prog w = .ok (.agg #[.int .u8 a, .int .u32 k, .int .u32 0, .slice none 0 0, .slice none 0 0, .int .u32 0, .slice none 0 0, .int .i64 0, .int .i64 0, .slice none 0 0]) w := run_build w 54 _ _ (VK a k)
attribute [-go_sem] Instr.build Instr.storeAt Instr.loadAt
attribute [local go_sem] j04 jf1
set_option maxRecDepth 20000 in
set_option maxHeartbeats 16000000 in
theorem ZI (g : Nat) (l : List UInt8) (w0 w : World) (h : Rd w0 w g l) (hb : Below w0.heap.size w0 w) (hg : w0.heap.size ≤ g) (hm : (l.length : Int) ≤ 100000) :
  Calls Tryz.prog 109 #[.pointer (some ⟨g, 0, none⟩)] w (PP (recP l) (fun x v w' => RecV w.heap.size x v w') w0 w g) := by
 have HR := iC.mk h
 have HB := iC.mk hb
 have hlt := h.lt
 clear h hb
 obtain ⟨W, hW⟩ : ∃ W, W = w.alloc (Obj.cells #[.int .u8 0, .int .u32 0, .int .u32 0, .slice none 0 0, .slice none 0 0, .int .u32 0, .slice none 0 0, .int .i64 0, .int .i64 0, .slice none 0 0] 54) := ⟨_, rfl⟩
 have HW := iC.mk hW
 have HG := iC.mk (show w.grownBy W (some g) from by rw [hW]; exact grown_below (iD (Below.refl _ _) _))
 have HR1 := iC.mk (Rd.grown HR.out (row := none) (show w.grownBy W none from by rw [hW]; exact grown_below (iD (Below.refl _ _) _)) (by simp))
 have HB1 := iC.mk (below_grown HB.out HG.out hg (Nat.le_refl _))
 have HX := iC.mk (show W.heap[w.heap.size]? = some (.cells #[.int .u8 0, .int .u32 0, .int .u32 0, .slice none 0 0, .slice none 0 0, .int .u32 0, .slice none 0 0, .int .i64 0, .int .i64 0, .slice none 0 0] 54 (0, 0)) from by rw [hW]; exact iO rfl)
 have HG0 := iC.mk hg
 clear HR hW hg
 cases hp1 : intP 1 l with
 | none =>
  have hcall := kF 1 1 rfl g l w0 W HR1.out (lS hp1)
  have HN := iC.mk (xK hp1)
  clear hp1
  go_enter Tryz.func109, Tryz.ntmps109
  go_wp2_with fail
  rw [← HW.out]
  refine hcall.mono ?_
  rintro e w1 ⟨rfl, hG⟩
  go_wp2
  exact ⟨rfl, iU HG.out hG, .inr ⟨HN.out, rfl⟩⟩
 | some x =>
  obtain ⟨k, r1⟩ := x
  obtain ⟨m1, rfl, hm1, hl1, hcall1⟩ := uB 1 1 rfl (by omega) HR1.out HB1.out hp1
  have hmm1 : (m1 : Int) < 256 := by omega
  cases hp2 : intP 4 r1 with
  | none =>
   have HN := iC.mk (IP hp1 hp2)
   clear hp1
   go_enter Tryz.func109, Tryz.ntmps109
   go_wp2_with fail
   rw [← HW.out]
   refine hcall1.mono ?_
   rintro e w1 ⟨rfl, hR, hG⟩
   go_wp2_with fail
   refine (kF 4 4 rfl g r1 w0 w1 hR (lS hp2)).mono ?_
   rintro e w2 ⟨rfl, hG2⟩
   clear hp2
   go_wp2
   exact ⟨rfl, iU (iU HG.out hG) hG2, .inr ⟨HN.out, rfl⟩⟩
  | some y =>
   obtain ⟨y, r2⟩ := y
   have HN := iC.mk (NJ hp1 hp2)
   clear hp1
   go_enter Tryz.func109, Tryz.ntmps109
   go_wp2_with fail
   rw [← HW.out]
   refine hcall1.mono ?_
   rintro e w1 ⟨rfl, hR, hG⟩
   obtain ⟨m2, rfl, hm2, hl2, hcall2⟩ := uB 4 4 rfl (by omega) hR (below_grown HB1.out hG HG0.out (Nat.le_refl _)) hp2
   have hmm2 : True → (m2 : Int) % 4294967296 = (m2 : Int) := fun _ => by omega
   have hr2 := iC.mk (show (r2.length : Int) ≤ 100000 from by omega)
   go_wp2_with fail
   refine hcall2.mono ?_
   rintro e w2 ⟨rfl, hR2, hG2⟩
   have HI := iC.mk (show RInv w0 w (w2.alloc (.cells #[.int .u8 (m1 : Int), .int .u32 (m2 : Int), .int .u32 0, .slice none 0 0, .slice none 0 0, .int .u32 0, .slice none 0 0, .int .i64 0, .int .i64 0, .slice none 0 0] 54)) g w2.heap.size r2 #[.int .u8 (m1 : Int), .int .u32 (m2 : Int), .int .u32 0, .slice none 0 0, .slice none 0 0, .int .u32 0, .slice none 0 0, .int .i64 0, .int .i64 0, .slice none 0 0] from by
    have hgt := iU (iU HG.out hG) hG2
    have hx2 := (hG2.block _ (Nat.lt_of_lt_of_le (jC HX.out) hG.size) (fun e => by injection e with e; omega)).trans ((hG.block _ (jC HX.out) (fun e => by injection e with e; omega)).trans HX.out)
    refine ⟨Rd.grown hR2 (row := none) (grown_below (iD (Below.refl _ _) _)) (by simp), iU hgt (grown_below (iD (Below.refl _ _) _)), below_grown (g := g) HB.out (iU hgt (grown_below (iD (Below.refl _ _) _))) HG0.out (Nat.le_refl _), iO rfl, ?_, hlt, jC hx2, hr2.out, HG0.out⟩
    exact jG hx2)
   clear hp2 hcall1 hcall2 hR hG hR2 hG2 HW HR1 HB1 HG hm1 hm2 hm HX hl1 hl2 hr2 HB HG0 hlt
   have hfr := HI.out.fresh
   obtain ⟨b, hbd⟩ : ∃ b, b = w2.heap.size := ⟨_, rfl⟩
   have hld := fun (_ : True) => jc3 HI.out.x
   clear hbd b hfr
   by_cases hk1 : (m1 : Int) = 1
   ·have HBODY := iC.mk (show oK (m1 : Int) (m2 : Int) r2 = (nN r2).bind fun x => (mV x.2).bind fun y => some (⟨(m1 : Int), (m2 : Int), 0, x.1, y.1, ⟨0, []⟩, 0, 0, []⟩, y.2) from by unfold oK; rw [if_pos hk1])
    have hka : (m1 : Int) ≤ 1 := by omega
    have hkb : 1 ≤ (m1 : Int) := by omega
    clear hk1
    go_wp2_with fail
    cases hq0 : nN r2 with
    | none =>
     have hF : recP l = none := by rw [HN.out, HBODY.out]; rw [hq0]; rfl
     have HF := iC.mk hF
     refine (uI g r2 w0 _ HI.out.rd HI.out.bl HI.out.hg HI.out.small).mono ?_
     intro e wx hpp
     obtain ⟨rfl, hG⟩ := hpp.short hq0
     clear hpp
     clear hF hq0
     go_wp2
     exact ⟨rfl, iU HI.out.gr hG, .inr ⟨HF.out, rfl⟩⟩
    | some y =>
     obtain ⟨y0, s0⟩ := y
     have HQ0 := iC.mk hq0
     refine (uI g r2 w0 _ HI.out.rd HI.out.bl HI.out.hg HI.out.small).mono ?_
     intro e w3 hpp
     obtain ⟨v3, rfl, hv3, hR, hG⟩ := hpp.ok hq0
     have hv3 : Kd.R (Kd.int .i64) 3 _ _ _ _ _ := hv3
     obtain ⟨A3, d3, rfl⟩ := Kd.R_slice hv3
     have hl0 := I7 _ _ _ hq0
     clear hpp
     have HC0 := iC.mk (HI.out.call hR hG (by omega))
     have HV3 := iC.mk hv3
     have HB3 := iC.mk HI.out.fresh
     clear hv3
     have HD0 := iC.mk (HC0.out.store #[.int .u8 (m1 : Int), .int .u32 (m2 : Int), .int .u32 0, .slice A3 y0.length d3, .slice none 0 0, .int .u32 0, .slice none 0 0, .int .i64 0, .int .i64 0, .slice none 0 0])
     have HV3 := iC.mk (jS HV3.out (jP _ w2.heap.size #[.int .u8 (m1 : Int), .int .u32 (m2 : Int), .int .u32 0, .slice A3 y0.length d3, .slice none 0 0, .int .u32 0, .slice none 0 0, .int .i64 0, .int .i64 0, .slice none 0 0]) HB3.out)
     have hst0 := fun (_ : True) => st_3 A3 y0.length d3 HC0.out.x
     clear hR hG hq0 hl0
     go_wp2_with fail
     cases hq1 : mV s0 with
     | none =>
      have hF : recP l = none := by rw [HN.out, HBODY.out]; rw [HQ0.out]; simp only [Option.bind_some]; rw [hq1]; rfl
      have HF := iC.mk hF
      refine (xM g s0 w0 _ HD0.out.rd HD0.out.bl HD0.out.hg HD0.out.small).mono ?_
      intro e wx hpp
      obtain ⟨rfl, hG⟩ := hpp.short hq1
      clear hpp
      clear hF hq1
      go_wp2
      exact ⟨rfl, iU HD0.out.gr hG, .inr ⟨HF.out, rfl⟩⟩
     | some y =>
      obtain ⟨y1, s1⟩ := y
      have HQ1 := iC.mk hq1
      have HO3 := iC.mk (Kd.R_lt HV3.out)
      refine (xM g s0 w0 _ HD0.out.rd HD0.out.bl HD0.out.hg HD0.out.small).mono ?_
      intro e w4 hpp
      obtain ⟨v4, rfl, hv4, hR, hG⟩ := hpp.ok hq1
      obtain ⟨A4, d4, rfl⟩ := Kd.R_slice hv4
      have hl1 := uZ _ _ _ hq1
      clear hpp
      have HC1 := iC.mk (HD0.out.call hR hG (by omega))
      have HV3 := iC.mk (jS HV3.out hG (by have := HC1.out.lt; have := HC1.out.le; have := HB3.out; omega))
      have HV4 := iC.mk hv4
      have HB4 := iC.mk HD0.out.fresh
      clear hv4
      have HD1 := iC.mk (HC1.out.store #[.int .u8 (m1 : Int), .int .u32 (m2 : Int), .int .u32 0, .slice A3 y0.length d3, .slice A4 y1.length d4, .int .u32 0, .slice none 0 0, .int .i64 0, .int .i64 0, .slice none 0 0])
      have HV3 := iC.mk (jS HV3.out (jP _ w2.heap.size #[.int .u8 (m1 : Int), .int .u32 (m2 : Int), .int .u32 0, .slice A3 y0.length d3, .slice A4 y1.length d4, .int .u32 0, .slice none 0 0, .int .i64 0, .int .i64 0, .slice none 0 0]) HB3.out)
      have HV4 := iC.mk (jS HV4.out (jP _ w2.heap.size #[.int .u8 (m1 : Int), .int .u32 (m2 : Int), .int .u32 0, .slice A3 y0.length d3, .slice A4 y1.length d4, .int .u32 0, .slice none 0 0, .int .i64 0, .int .i64 0, .slice none 0 0]) HB4.out)
      have hst1 := fun (_ : True) => st_4 A4 y1.length d4 HC1.out.x
      clear hR hG hq1 hl1
      have hlr := fun (_ : True) => qB HD1.out.x rfl
      have hsr := fun (_ : True) => nZ (a := (m1 : Int)) (k := (m2 : Int)) (i := 0) (x3 := .slice A3 y0.length d3) (x4 := .slice A4 y1.length d4) (j := 0) (x6 := .slice none 0 0) (p := 0) (q := 0) (x9 := .slice none 0 0) HD1.out.res rfl rfl rfl rfl
      have hlr2 := fun (_ : True) => qB (setRow_heap (w4.setRow w2.heap.size #[.int .u8 (m1 : Int), .int .u32 (m2 : Int), .int .u32 0, .slice A3 y0.length d3, .slice A4 y1.length d4, .int .u32 0, .slice none 0 0, .int .i64 0, .int .i64 0, .slice none 0 0]) w.heap.size #[.int .u8 0, .int .u32 0, .int .u32 0, .slice none 0 0, .slice none 0 0, .int .u32 0, .slice none 0 0, .int .i64 0, .int .i64 0, .slice none 0 0] #[.int .u8 (m1 : Int), .int .u32 (m2 : Int), .int .u32 0, .slice A3 y0.length d3, .slice A4 y1.length d4, .int .u32 0, .slice none 0 0, .int .i64 0, .int .i64 0, .slice none 0 0] _ _ HD1.out.res) rfl
      go_wp2_with fail
      (try simp only [Exit.inBlock, Exit.then])
      refine bodyPost_ret (results_cell_row rfl _ _ w.heap.size 54 #[.int .u8 (m1 : Int), .int .u32 (m2 : Int), .int .u32 0, .slice A3 y0.length d3, .slice A4 y1.length d4, .int .u32 0, .slice none 0 0, .int .i64 0, .int .i64 0, .slice none 0 0] (0, 0) _ (by rfl) (setRow_heap _ _ _ _ _ _ HD1.out.res) Tryz.underlying54 rfl rfl) rfl ?_
      obtain ⟨hf1, hf2⟩ := HD1.out.fin #[.int .u8 (m1 : Int), .int .u32 (m2 : Int), .int .u32 0, .slice A3 y0.length d3, .slice A4 y1.length d4, .int .u32 0, .slice none 0 0, .int .i64 0, .int .i64 0, .slice none 0 0]
      refine ⟨hf1, .inl ⟨⟨(m1 : Int), (m2 : Int), 0, y0, y1, ⟨0, []⟩, 0, 0, []⟩, s1, _, ?_, rfl, ⟨_, _, _, _, rfl, ?_, ?_, ?_, ?_⟩, hf2⟩⟩
      ·rw [HN.out, HBODY.out]; rw [HQ0.out]; simp only [Option.bind_some]; rw [HQ1.out]; rfl
      ·have hh := jS HV3.out (jP _ w.heap.size #[.int .u8 (m1 : Int), .int .u32 (m2 : Int), .int .u32 0, .slice A3 y0.length d3, .slice A4 y1.length d4, .int .u32 0, .slice none 0 0, .int .i64 0, .int .i64 0, .slice none 0 0]) (by have := HD1.out.le; have := HB3.out; omega)
       have hle := Nat.le_of_lt (Nat.lt_trans HD1.out.le HB3.out)
       exact Kd.R_lower hh hle
      ·have hh := jS HV4.out (jP _ w.heap.size #[.int .u8 (m1 : Int), .int .u32 (m2 : Int), .int .u32 0, .slice A3 y0.length d3, .slice A4 y1.length d4, .int .u32 0, .slice none 0 0, .int .i64 0, .int .i64 0, .slice none 0 0]) (by have := HD1.out.le; have := HB4.out; omega)
       have hle := Nat.le_of_lt (Nat.lt_trans HD1.out.le HB4.out)
       refine Kd.R_lower (Kd.R_mono (Kd.R_bound hh) (ok' := fun k => some k ≠ Value.ownBlock (.slice A3 y0.length d3)) (fun k hk e => ?_)) hle
       have h1 := HO3.out k e.symm
       have h2 := hk.2.1
       omega
      ·exact Kd.R_nil _ _ _ _ _
      ·exact Kd.R_nil _ _ _ _ _
   by_cases hk2 : (m1 : Int) = 2
   ·have HBODY := iC.mk (show oK (m1 : Int) (m2 : Int) r2 = (intP 4 r2).bind fun x => (nN x.2).bind fun y => some (⟨(m1 : Int), (m2 : Int), x.1, y.1, [], ⟨0, []⟩, 0, 0, []⟩, y.2) from by unfold oK; rw [if_neg hk1]; rw [if_pos hk2])
    have hka : (m1 : Int) ≤ 2 := by omega
    have hkb : 2 ≤ (m1 : Int) := by omega
    clear hk2
    go_wp2_with fail
    cases hq0 : intP 4 r2 with
    | none =>
     have hF : recP l = none := by rw [HN.out, HBODY.out]; rw [hq0]; rfl
     have HF := iC.mk hF
     refine (kF 4 4 rfl g r2 w0 _ HI.out.rd (lS hq0)).mono ?_
     rintro e wx ⟨rfl, hG⟩
     clear hF hq0
     go_wp2
     exact ⟨rfl, iU HI.out.gr hG, .inr ⟨HF.out, rfl⟩⟩
    | some y =>
     obtain ⟨y0, s0⟩ := y
     obtain ⟨n0, hy, hn0, hl0, hcall⟩ := uB 4 4 rfl (by omega) HI.out.rd HI.out.bl hq0
     subst hy
     have hnn0 : True → (n0 : Int) % 4294967296 = (n0 : Int) := fun _ => by omega
     have HQ0 := iC.mk hq0
     refine hcall.mono ?_
     rintro e w3 ⟨rfl, hR, hG⟩
     have HC0 := iC.mk (HI.out.call hR hG (by omega))
     have HD0 := iC.mk (HC0.out.store #[.int .u8 (m1 : Int), .int .u32 (m2 : Int), .int .u32 (n0 : Int), .slice none 0 0, .slice none 0 0, .int .u32 0, .slice none 0 0, .int .i64 0, .int .i64 0, .slice none 0 0])
     have hst0 := fun (_ : True) => st_2 (n0 : Int) HC0.out.x
     clear hR hG hq0 hl0 hn0 hcall
     go_wp2_with fail
     cases hq1 : nN s0 with
     | none =>
      have hF : recP l = none := by rw [HN.out, HBODY.out]; rw [HQ0.out]; simp only [Option.bind_some]; rw [hq1]; rfl
      have HF := iC.mk hF
      refine (uI g s0 w0 _ HD0.out.rd HD0.out.bl HD0.out.hg HD0.out.small).mono ?_
      intro e wx hpp
      obtain ⟨rfl, hG⟩ := hpp.short hq1
      clear hpp
      clear hF hq1
      go_wp2
      exact ⟨rfl, iU HD0.out.gr hG, .inr ⟨HF.out, rfl⟩⟩
     | some y =>
      obtain ⟨y1, s1⟩ := y
      have HQ1 := iC.mk hq1
      refine (uI g s0 w0 _ HD0.out.rd HD0.out.bl HD0.out.hg HD0.out.small).mono ?_
      intro e w4 hpp
      obtain ⟨v3, rfl, hv3, hR, hG⟩ := hpp.ok hq1
      have hv3 : Kd.R (Kd.int .i64) 3 _ _ _ _ _ := hv3
      obtain ⟨A3, d3, rfl⟩ := Kd.R_slice hv3
      have hl1 := I7 _ _ _ hq1
      clear hpp
      have HC1 := iC.mk (HD0.out.call hR hG (by omega))
      have HV3 := iC.mk hv3
      have HB3 := iC.mk HD0.out.fresh
      clear hv3
      have HD1 := iC.mk (HC1.out.store #[.int .u8 (m1 : Int), .int .u32 (m2 : Int), .int .u32 (n0 : Int), .slice A3 y1.length d3, .slice none 0 0, .int .u32 0, .slice none 0 0, .int .i64 0, .int .i64 0, .slice none 0 0])
      have HV3 := iC.mk (jS HV3.out (jP _ w2.heap.size #[.int .u8 (m1 : Int), .int .u32 (m2 : Int), .int .u32 (n0 : Int), .slice A3 y1.length d3, .slice none 0 0, .int .u32 0, .slice none 0 0, .int .i64 0, .int .i64 0, .slice none 0 0]) HB3.out)
      have hst1 := fun (_ : True) => st_3 A3 y1.length d3 HC1.out.x
      clear hR hG hq1 hl1
      have hlr := fun (_ : True) => qB HD1.out.x rfl
      have hsr := fun (_ : True) => nZ (a := (m1 : Int)) (k := (m2 : Int)) (i := (n0 : Int)) (x3 := .slice A3 y1.length d3) (x4 := .slice none 0 0) (j := 0) (x6 := .slice none 0 0) (p := 0) (q := 0) (x9 := .slice none 0 0) HD1.out.res rfl rfl rfl rfl
      have hlr2 := fun (_ : True) => qB (setRow_heap (w4.setRow w2.heap.size #[.int .u8 (m1 : Int), .int .u32 (m2 : Int), .int .u32 (n0 : Int), .slice A3 y1.length d3, .slice none 0 0, .int .u32 0, .slice none 0 0, .int .i64 0, .int .i64 0, .slice none 0 0]) w.heap.size #[.int .u8 0, .int .u32 0, .int .u32 0, .slice none 0 0, .slice none 0 0, .int .u32 0, .slice none 0 0, .int .i64 0, .int .i64 0, .slice none 0 0] #[.int .u8 (m1 : Int), .int .u32 (m2 : Int), .int .u32 (n0 : Int), .slice A3 y1.length d3, .slice none 0 0, .int .u32 0, .slice none 0 0, .int .i64 0, .int .i64 0, .slice none 0 0] _ _ HD1.out.res) rfl
      go_wp2_with fail
      (try simp only [Exit.inBlock, Exit.then])
      refine bodyPost_ret (results_cell_row rfl _ _ w.heap.size 54 #[.int .u8 (m1 : Int), .int .u32 (m2 : Int), .int .u32 (n0 : Int), .slice A3 y1.length d3, .slice none 0 0, .int .u32 0, .slice none 0 0, .int .i64 0, .int .i64 0, .slice none 0 0] (0, 0) _ (by rfl) (setRow_heap _ _ _ _ _ _ HD1.out.res) Tryz.underlying54 rfl rfl) rfl ?_
      obtain ⟨hf1, hf2⟩ := HD1.out.fin #[.int .u8 (m1 : Int), .int .u32 (m2 : Int), .int .u32 (n0 : Int), .slice A3 y1.length d3, .slice none 0 0, .int .u32 0, .slice none 0 0, .int .i64 0, .int .i64 0, .slice none 0 0]
      refine ⟨hf1, .inl ⟨⟨(m1 : Int), (m2 : Int), (n0 : Int), y1, [], ⟨0, []⟩, 0, 0, []⟩, s1, _, ?_, rfl, ⟨_, _, _, _, rfl, ?_, ?_, ?_, ?_⟩, hf2⟩⟩
      ·rw [HN.out, HBODY.out]; rw [HQ0.out]; simp only [Option.bind_some]; rw [HQ1.out]; rfl
      ·have hh := jS HV3.out (jP _ w.heap.size #[.int .u8 (m1 : Int), .int .u32 (m2 : Int), .int .u32 (n0 : Int), .slice A3 y1.length d3, .slice none 0 0, .int .u32 0, .slice none 0 0, .int .i64 0, .int .i64 0, .slice none 0 0]) (by have := HD1.out.le; have := HB3.out; omega)
       have hle := Nat.le_of_lt (Nat.lt_trans HD1.out.le HB3.out)
       exact Kd.R_lower hh hle
      ·exact Kd.R_nil _ _ _ _ _
      ·exact Kd.R_nil _ _ _ _ _
      ·exact Kd.R_nil _ _ _ _ _
   by_cases hk6 : (m1 : Int) = 6
   ·have HBODY := iC.mk (show oK (m1 : Int) (m2 : Int) r2 = (intP 4 r2).bind fun x => (pU x.2).bind fun y => some (⟨(m1 : Int), (m2 : Int), 0, [], [], ⟨x.1, y.1⟩, 0, 0, []⟩, y.2) from by unfold oK; rw [if_neg hk1]; rw [if_neg hk2]; rw [if_pos hk6])
    have hka : (m1 : Int) ≤ 6 := by omega
    have hkb : 6 ≤ (m1 : Int) := by omega
    clear hk6
    go_wp2_with fail
    cases hq0 : intP 4 r2 with
    | none =>
     have hF : recP l = none := by rw [HN.out, HBODY.out]; rw [hq0]; rfl
     have HF := iC.mk hF
     refine (kF 4 4 rfl g r2 w0 _ HI.out.rd (lS hq0)).mono ?_
     rintro e wx ⟨rfl, hG⟩
     clear hF hq0
     go_wp2
     exact ⟨rfl, iU HI.out.gr hG, .inr ⟨HF.out, rfl⟩⟩
    | some y =>
     obtain ⟨y0, s0⟩ := y
     obtain ⟨n0, hy, hn0, hl0, hcall⟩ := uB 4 4 rfl (by omega) HI.out.rd HI.out.bl hq0
     subst hy
     have hnn0 : True → (n0 : Int) % 4294967296 = (n0 : Int) := fun _ => by omega
     have HQ0 := iC.mk hq0
     refine hcall.mono ?_
     rintro e w3 ⟨rfl, hR, hG⟩
     have HC0 := iC.mk (HI.out.call hR hG (by omega))
     have HD0 := iC.mk (HC0.out.store #[.int .u8 (m1 : Int), .int .u32 (m2 : Int), .int .u32 0, .slice none 0 0, .slice none 0 0, .int .u32 (n0 : Int), .slice none 0 0, .int .i64 0, .int .i64 0, .slice none 0 0])
     have hst0 := fun (_ : True) => st_5 (n0 : Int) HC0.out.x
     clear hR hG hq0 hl0 hn0 hcall
     go_wp2_with fail
     cases hq1 : pU s0 with
     | none =>
      have hF : recP l = none := by rw [HN.out, HBODY.out]; rw [HQ0.out]; simp only [Option.bind_some]; rw [hq1]; rfl
      have HF := iC.mk hF
      refine (II g s0 w0 _ HD0.out.rd HD0.out.bl HD0.out.hg HD0.out.small).mono ?_
      intro e wx hpp
      obtain ⟨rfl, hG⟩ := hpp.short hq1
      clear hpp
      clear hF hq1
      go_wp2
      exact ⟨rfl, iU HD0.out.gr hG, .inr ⟨HF.out, rfl⟩⟩
     | some y =>
      obtain ⟨y1, s1⟩ := y
      have HQ1 := iC.mk hq1
      refine (II g s0 w0 _ HD0.out.rd HD0.out.bl HD0.out.hg HD0.out.small).mono ?_
      intro e w4 hpp
      obtain ⟨v6, rfl, hv6, hR, hG⟩ := hpp.ok hq1
      obtain ⟨A6, d6, rfl⟩ := Kd.R_slice hv6
      have hl1 := PE _ _ _ hq1
      clear hpp
      have HC1 := iC.mk (HD0.out.call hR hG (by omega))
      have HV6 := iC.mk hv6
      have HB6 := iC.mk HD0.out.fresh
      clear hv6
      have HD1 := iC.mk (HC1.out.store #[.int .u8 (m1 : Int), .int .u32 (m2 : Int), .int .u32 0, .slice none 0 0, .slice none 0 0, .int .u32 (n0 : Int), .slice A6 y1.length d6, .int .i64 0, .int .i64 0, .slice none 0 0])
      have HV6 := iC.mk (jS HV6.out (jP _ w2.heap.size #[.int .u8 (m1 : Int), .int .u32 (m2 : Int), .int .u32 0, .slice none 0 0, .slice none 0 0, .int .u32 (n0 : Int), .slice A6 y1.length d6, .int .i64 0, .int .i64 0, .slice none 0 0]) HB6.out)
      have hst1 := fun (_ : True) => st_6 A6 y1.length d6 HC1.out.x
      clear hR hG hq1 hl1
      have hlr := fun (_ : True) => qB HD1.out.x rfl
      have hsr := fun (_ : True) => nZ (a := (m1 : Int)) (k := (m2 : Int)) (i := 0) (x3 := .slice none 0 0) (x4 := .slice none 0 0) (j := (n0 : Int)) (x6 := .slice A6 y1.length d6) (p := 0) (q := 0) (x9 := .slice none 0 0) HD1.out.res rfl rfl rfl rfl
      have hlr2 := fun (_ : True) => qB (setRow_heap (w4.setRow w2.heap.size #[.int .u8 (m1 : Int), .int .u32 (m2 : Int), .int .u32 0, .slice none 0 0, .slice none 0 0, .int .u32 (n0 : Int), .slice A6 y1.length d6, .int .i64 0, .int .i64 0, .slice none 0 0]) w.heap.size #[.int .u8 0, .int .u32 0, .int .u32 0, .slice none 0 0, .slice none 0 0, .int .u32 0, .slice none 0 0, .int .i64 0, .int .i64 0, .slice none 0 0] #[.int .u8 (m1 : Int), .int .u32 (m2 : Int), .int .u32 0, .slice none 0 0, .slice none 0 0, .int .u32 (n0 : Int), .slice A6 y1.length d6, .int .i64 0, .int .i64 0, .slice none 0 0] _ _ HD1.out.res) rfl
      go_wp2_with fail
      (try simp only [Exit.inBlock, Exit.then])
      refine bodyPost_ret (results_cell_row rfl _ _ w.heap.size 54 #[.int .u8 (m1 : Int), .int .u32 (m2 : Int), .int .u32 0, .slice none 0 0, .slice none 0 0, .int .u32 (n0 : Int), .slice A6 y1.length d6, .int .i64 0, .int .i64 0, .slice none 0 0] (0, 0) _ (by rfl) (setRow_heap _ _ _ _ _ _ HD1.out.res) Tryz.underlying54 rfl rfl) rfl ?_
      obtain ⟨hf1, hf2⟩ := HD1.out.fin #[.int .u8 (m1 : Int), .int .u32 (m2 : Int), .int .u32 0, .slice none 0 0, .slice none 0 0, .int .u32 (n0 : Int), .slice A6 y1.length d6, .int .i64 0, .int .i64 0, .slice none 0 0]
      refine ⟨hf1, .inl ⟨⟨(m1 : Int), (m2 : Int), 0, [], [], ⟨(n0 : Int), y1⟩, 0, 0, []⟩, s1, _, ?_, rfl, ⟨_, _, _, _, rfl, ?_, ?_, ?_, ?_⟩, hf2⟩⟩
      ·rw [HN.out, HBODY.out]; rw [HQ0.out]; simp only [Option.bind_some]; rw [HQ1.out]; rfl
      ·exact Kd.R_nil _ _ _ _ _
      ·exact Kd.R_nil _ _ _ _ _
      ·have hh := jS HV6.out (jP _ w.heap.size #[.int .u8 (m1 : Int), .int .u32 (m2 : Int), .int .u32 0, .slice none 0 0, .slice none 0 0, .int .u32 (n0 : Int), .slice A6 y1.length d6, .int .i64 0, .int .i64 0, .slice none 0 0]) (by have := HD1.out.le; have := HB6.out; omega)
       have hle := Nat.le_of_lt (Nat.lt_trans HD1.out.le HB6.out)
       exact Kd.R_lower hh hle
      ·exact Kd.R_nil _ _ _ _ _
   by_cases hk7 : (m1 : Int) = 7
   ·have HBODY := iC.mk (show oK (m1 : Int) (m2 : Int) r2 = (intP 4 r2).bind fun x => (intP 4 x.2).bind fun y => (kY y.2).bind fun z => some (⟨(m1 : Int), (m2 : Int), 0, [], [], ⟨0, []⟩, x.1, y.1, z.1⟩, z.2) from by unfold oK; rw [if_neg hk1]; rw [if_neg hk2]; rw [if_neg hk6]; rw [if_pos hk7])
    have hka : (m1 : Int) ≤ 7 := by omega
    have hkb : 7 ≤ (m1 : Int) := by omega
    clear hk7
    go_wp2_with fail
    cases hq0 : intP 4 r2 with
    | none =>
     have hF : recP l = none := by rw [HN.out, HBODY.out]; rw [hq0]; rfl
     have HF := iC.mk hF
     refine (kF 4 4 rfl g r2 w0 _ HI.out.rd (lS hq0)).mono ?_
     rintro e wx ⟨rfl, hG⟩
     clear hF hq0
     go_wp2
     exact ⟨rfl, iU HI.out.gr hG, .inr ⟨HF.out, rfl⟩⟩
    | some y =>
     obtain ⟨y0, s0⟩ := y
     obtain ⟨n0, hy, hn0, hl0, hcall⟩ := uB 4 4 rfl (by omega) HI.out.rd HI.out.bl hq0
     subst hy
     have hnn0 : True → (n0 : Int) % 4294967296 = (n0 : Int) := fun _ => by omega
     have HQ0 := iC.mk hq0
     refine hcall.mono ?_
     rintro e w3 ⟨rfl, hR, hG⟩
     have hnw0 : True → wrap64 (n0 : Int) = (n0 : Int) := fun _ => uY n0 (by omega)
     have HC0 := iC.mk (HI.out.call hR hG (by omega))
     have HD0 := iC.mk (HC0.out.store #[.int .u8 (m1 : Int), .int .u32 (m2 : Int), .int .u32 0, .slice none 0 0, .slice none 0 0, .int .u32 0, .slice none 0 0, .int .i64 (n0 : Int), .int .i64 0, .slice none 0 0])
     have hst0 := fun (_ : True) => st_7 (n0 : Int) HC0.out.x
     clear hR hG hq0 hl0 hn0 hcall
     go_wp2_with fail
     cases hq1 : intP 4 s0 with
     | none =>
      have hF : recP l = none := by rw [HN.out, HBODY.out]; rw [HQ0.out]; simp only [Option.bind_some]; rw [hq1]; rfl
      have HF := iC.mk hF
      refine (kF 4 4 rfl g s0 w0 _ HD0.out.rd (lS hq1)).mono ?_
      rintro e wx ⟨rfl, hG⟩
      clear hF hq1
      go_wp2
      exact ⟨rfl, iU HD0.out.gr hG, .inr ⟨HF.out, rfl⟩⟩
     | some y =>
      obtain ⟨y1, s1⟩ := y
      obtain ⟨n1, hy, hn1, hl1, hcall⟩ := uB 4 4 rfl (by omega) HD0.out.rd HD0.out.bl hq1
      subst hy
      have hnn1 : True → (n1 : Int) % 4294967296 = (n1 : Int) := fun _ => by omega
      have HQ1 := iC.mk hq1
      refine hcall.mono ?_
      rintro e w4 ⟨rfl, hR, hG⟩
      have hnw1 : True → wrap64 (n1 : Int) = (n1 : Int) := fun _ => uY n1 (by omega)
      have HC1 := iC.mk (HD0.out.call hR hG (by omega))
      have HD1 := iC.mk (HC1.out.store #[.int .u8 (m1 : Int), .int .u32 (m2 : Int), .int .u32 0, .slice none 0 0, .slice none 0 0, .int .u32 0, .slice none 0 0, .int .i64 (n0 : Int), .int .i64 (n1 : Int), .slice none 0 0])
      have hst1 := fun (_ : True) => st_8 (n1 : Int) HC1.out.x
      clear hR hG hq1 hl1 hn1 hcall
      go_wp2_with fail
      cases hq2 : kY s1 with
      | none =>
       have hF : recP l = none := by rw [HN.out, HBODY.out]; rw [HQ0.out]; simp only [Option.bind_some]; rw [HQ1.out]; simp only [Option.bind_some]; rw [hq2]; rfl
       have HF := iC.mk hF
       refine (yI g s1 w0 _ HD1.out.rd HD1.out.bl HD1.out.hg HD1.out.small).mono ?_
       intro e wx hpp
       obtain ⟨rfl, hG⟩ := hpp.short hq2
       clear hpp
       clear hF hq2
       go_wp2
       exact ⟨rfl, iU HD1.out.gr hG, .inr ⟨HF.out, rfl⟩⟩
      | some y =>
       obtain ⟨y2, s2⟩ := y
       have HQ2 := iC.mk hq2
       refine (yI g s1 w0 _ HD1.out.rd HD1.out.bl HD1.out.hg HD1.out.small).mono ?_
       intro e w5 hpp
       obtain ⟨v9, rfl, hv9, hR, hG⟩ := hpp.ok hq2
       obtain ⟨A9, d9, rfl⟩ := Kd.R_slice hv9
       have hl2 := JK _ _ _ hq2
       clear hpp
       have HC2 := iC.mk (HD1.out.call hR hG (by omega))
       have HV9 := iC.mk hv9
       have HB9 := iC.mk HD1.out.fresh
       clear hv9
       have HD2 := iC.mk (HC2.out.store #[.int .u8 (m1 : Int), .int .u32 (m2 : Int), .int .u32 0, .slice none 0 0, .slice none 0 0, .int .u32 0, .slice none 0 0, .int .i64 (n0 : Int), .int .i64 (n1 : Int), .slice A9 y2.length d9])
       have HV9 := iC.mk (jS HV9.out (jP _ w2.heap.size #[.int .u8 (m1 : Int), .int .u32 (m2 : Int), .int .u32 0, .slice none 0 0, .slice none 0 0, .int .u32 0, .slice none 0 0, .int .i64 (n0 : Int), .int .i64 (n1 : Int), .slice A9 y2.length d9]) HB9.out)
       have hst2 := fun (_ : True) => st_9 A9 y2.length d9 HC2.out.x
       clear hR hG hq2 hl2
       have hlr := fun (_ : True) => qB HD2.out.x rfl
       have hsr := fun (_ : True) => nZ (a := (m1 : Int)) (k := (m2 : Int)) (i := 0) (x3 := .slice none 0 0) (x4 := .slice none 0 0) (j := 0) (x6 := .slice none 0 0) (p := (n0 : Int)) (q := (n1 : Int)) (x9 := .slice A9 y2.length d9) HD2.out.res rfl rfl rfl rfl
       have hlr2 := fun (_ : True) => qB (setRow_heap (w5.setRow w2.heap.size #[.int .u8 (m1 : Int), .int .u32 (m2 : Int), .int .u32 0, .slice none 0 0, .slice none 0 0, .int .u32 0, .slice none 0 0, .int .i64 (n0 : Int), .int .i64 (n1 : Int), .slice A9 y2.length d9]) w.heap.size #[.int .u8 0, .int .u32 0, .int .u32 0, .slice none 0 0, .slice none 0 0, .int .u32 0, .slice none 0 0, .int .i64 0, .int .i64 0, .slice none 0 0] #[.int .u8 (m1 : Int), .int .u32 (m2 : Int), .int .u32 0, .slice none 0 0, .slice none 0 0, .int .u32 0, .slice none 0 0, .int .i64 (n0 : Int), .int .i64 (n1 : Int), .slice A9 y2.length d9] _ _ HD2.out.res) rfl
       go_wp2_with fail
       (try simp only [Exit.inBlock, Exit.then])
       refine bodyPost_ret (results_cell_row rfl _ _ w.heap.size 54 #[.int .u8 (m1 : Int), .int .u32 (m2 : Int), .int .u32 0, .slice none 0 0, .slice none 0 0, .int .u32 0, .slice none 0 0, .int .i64 (n0 : Int), .int .i64 (n1 : Int), .slice A9 y2.length d9] (0, 0) _ (by rfl) (setRow_heap _ _ _ _ _ _ HD2.out.res) Tryz.underlying54 rfl rfl) rfl ?_
       obtain ⟨hf1, hf2⟩ := HD2.out.fin #[.int .u8 (m1 : Int), .int .u32 (m2 : Int), .int .u32 0, .slice none 0 0, .slice none 0 0, .int .u32 0, .slice none 0 0, .int .i64 (n0 : Int), .int .i64 (n1 : Int), .slice A9 y2.length d9]
       refine ⟨hf1, .inl ⟨⟨(m1 : Int), (m2 : Int), 0, [], [], ⟨0, []⟩, (n0 : Int), (n1 : Int), y2⟩, s2, _, ?_, rfl, ⟨_, _, _, _, rfl, ?_, ?_, ?_, ?_⟩, hf2⟩⟩
       ·rw [HN.out, HBODY.out]; rw [HQ0.out]; simp only [Option.bind_some]; rw [HQ1.out]; simp only [Option.bind_some]; rw [HQ2.out]; rfl
       ·exact Kd.R_nil _ _ _ _ _
       ·exact Kd.R_nil _ _ _ _ _
       ·exact Kd.R_nil _ _ _ _ _
       ·have hh := jS HV9.out (jP _ w.heap.size #[.int .u8 (m1 : Int), .int .u32 (m2 : Int), .int .u32 0, .slice none 0 0, .slice none 0 0, .int .u32 0, .slice none 0 0, .int .i64 (n0 : Int), .int .i64 (n1 : Int), .slice A9 y2.length d9]) (by have := HD2.out.le; have := HB9.out; omega)
        have hle := Nat.le_of_lt (Nat.lt_trans HD2.out.le HB9.out)
        exact Kd.R_lower (Kd.R_mono hh (fun k _ => ⟨fun e => by simp [Value.ownBlock] at e, fun e => by simp [Value.ownBlock] at e⟩)) hle
   have HBODY := iC.mk (show oK (m1 : Int) (m2 : Int) r2 = some (⟨(m1 : Int), (m2 : Int), 0, [], [], ⟨0, []⟩, 0, 0, []⟩, r2) from by unfold oK; rw [if_neg hk1, if_neg hk2, if_neg hk6, if_neg hk7])
   have hlr := fun (_ : True) => qB HI.out.x rfl
   have hsr := fun (_ : True) => nZ (a := (m1 : Int)) (k := (m2 : Int)) (i := 0) (x3 := .slice none 0 0) (x4 := .slice none 0 0) (j := 0) (x6 := .slice none 0 0) (p := 0) (q := 0) (x9 := .slice none 0 0) HI.out.res rfl rfl rfl rfl
   have hlr2 := fun (_ : True) => qB (setRow_heap (w2.alloc (.cells #[.int .u8 (m1 : Int), .int .u32 (m2 : Int), .int .u32 0, .slice none 0 0, .slice none 0 0, .int .u32 0, .slice none 0 0, .int .i64 0, .int .i64 0, .slice none 0 0] 54)) w.heap.size #[.int .u8 0, .int .u32 0, .int .u32 0, .slice none 0 0, .slice none 0 0, .int .u32 0, .slice none 0 0, .int .i64 0, .int .i64 0, .slice none 0 0] #[.int .u8 (m1 : Int), .int .u32 (m2 : Int), .int .u32 0, .slice none 0 0, .slice none 0 0, .int .u32 0, .slice none 0 0, .int .i64 0, .int .i64 0, .slice none 0 0] _ _ HI.out.res) rfl
   go_wp2_with fail
   (try simp only [Exit.inBlock, Exit.then])
   refine bodyPost_ret (results_cell_row rfl _ _ w.heap.size 54 #[.int .u8 (m1 : Int), .int .u32 (m2 : Int), .int .u32 0, .slice none 0 0, .slice none 0 0, .int .u32 0, .slice none 0 0, .int .i64 0, .int .i64 0, .slice none 0 0] (0, 0) _ (by rfl) (setRow_heap _ _ _ _ _ _ HI.out.res) Tryz.underlying54 rfl rfl) rfl ?_
   obtain ⟨hf1, hf2⟩ := HI.out.fin #[.int .u8 (m1 : Int), .int .u32 (m2 : Int), .int .u32 0, .slice none 0 0, .slice none 0 0, .int .u32 0, .slice none 0 0, .int .i64 0, .int .i64 0, .slice none 0 0]
   refine ⟨hf1, .inl ⟨⟨(m1 : Int), (m2 : Int), 0, [], [], ⟨0, []⟩, 0, 0, []⟩, r2, _, ?_, rfl, ⟨_, _, _, _, rfl, ?_, ?_, ?_, ?_⟩, hf2⟩⟩
   ·rw [HN.out, HBODY.out]; skip
   ·exact Kd.R_nil _ _ _ _ _
   ·exact Kd.R_nil _ _ _ _ _
   ·exact Kd.R_nil _ _ _ _ _
   ·exact Kd.R_nil _ _ _ _ _
end Go.Proofs.YtgfkgppomaapiaaGreatDoor.K
end

section
namespace Go.Proofs.YtgfkgppomaapiaaGreatDoor.K
open RowKit YtgfkgppomaapiaaGreatDoorW.PrintWords YtgfkgppomaapiaaGreatDoorW.PrintLast YtgfkgppomaapiaaGreatDoorW.PrintMore My
theorem RZ : (Tryz.prog).built 54 (#[] : Array (Nat × Value)).toList = some #[.int .u8 0, .int .u32 0, .int .u32 0, .slice none 0 0, .slice none 0 0, .int .u32 0, .slice none 0 0, .int .i64 0, .int .i64 0, .slice none 0 0] := by kernel_rfl
theorem WT (w : World) : (Instr.build 54 #[]).run Tryz.prog w = .ok (.agg #[.int .u8 0, .int .u32 0, .int .u32 0, .slice none 0 0, .slice none 0 0, .int .u32 0, .slice none 0 0, .int .i64 0, .int .i64 0, .slice none 0 0]) w := run_build w _ _ _ RZ
theorem WW {w : World} {b : Nat} {c0 : Value} (x : Bool) (h : w.heap[b]? = some (.cells #[c0] 4 (0, 0))) : (Instr.storeAt 4 (.pointer (some ⟨b, 0, none⟩)) (.bool x)).run Tryz.prog w = .ok () (w.setCell ⟨b, 0, none⟩ (.bool x)) := by
 have z : w.cell? ⟨b, 0, none⟩ = some c0 := (iH h 0).trans rfl
 have y : w.frozen? ⟨b, 0, none⟩ = false := iG h 0
 simp [go_sem, z, y]
theorem ZU (w : World) : (Instr.storeAt 165 (.pointer (some ⟨w.heap.size, 0, none⟩)) (.agg #[])).run Tryz.prog (w.alloc (.cells #[] 165)) = .ok () (w.alloc (.cells #[] 165)) :=
 run_storeAt_new (P := Tryz.prog) w _ #[] #[] (by kernel_rfl) rfl (by simp)
theorem jd2 {w : World} {b : Nat} {x : Bool} (h : w.heap[b]? = some (.cells #[.bool x] 4 (0, 0))) : (Instr.loadAt 4 (.pointer (some ⟨b, 0, none⟩))).run Tryz.prog w = .ok (.bool x) w := by
 have z : w.cell? ⟨b, 0, none⟩ = some (.bool x) := (iH h 0).trans rfl
 simp [go_sem, z]
theorem VZ (w : World) (A : Option Addr) (n c : Nat) : (Instr.build 168 #[(0, .slice A n c)]).run Tryz.prog w = .ok (.agg #[.slice A n c]) w := run_build w _ _ _ (by kernel_rfl)
theorem YH (w : World) : (Instr.typeAssert (.iface 165 (.agg #[])) 20 165 true).run Tryz.prog w = .ok (.tuple #[.agg #[], .bool true]) w := by
 have hu : (Tryz.prog).underlying 165 = some (.struct #[]) := by kernel_rfl
 simp [Instr.typeAssert, run_underlying hu]
attribute [-go_sem] Instr.build Instr.storeAt
attribute [local go_sem] WT VZ ZU YH
set_option maxRecDepth 20000 in
theorem PI (bx bi : Nat) (w : World) (hx : w.heap[bx]? = some (.cells #[.int .u8 0, .int .u32 0, .int .u32 0, .slice none 0 0, .slice none 0 0, .int .u32 0, .slice none 0 0, .int .i64 0, .int .i64 0, .slice none 0 0] 54 (0, 0))) (hi : w.heap[bi]? = some (.cells #[.bool false] 4 (0, 0))) (hne : bx ≠ bi) :
  CallsD Tryz.prog 108 #[.pointer (some ⟨bx, 0, none⟩), .pointer (some ⟨bi, 0, none⟩)] (.panicking IX) w fun e u' w' =>
   e = .returned (.tuple #[]) ∧ u' = .panicking [{ v := .iface 165 (.agg #[]), recovered := true }] ∧ w' = ((w.alloc (.cells #[] 165)).setRow bx #[.int .u8 0, .int .u32 0, .int .u32 0, .slice none 0 0, .slice none 0 0, .int .u32 0, .slice none 0 0, .int .i64 0, .int .i64 0, .slice none 0 0]).setCell ⟨bi, 0, none⟩ (.bool false) := by
 have hx1 : (w.alloc (.cells #[] 165)).heap[bx]? = some (.cells #[.int .u8 0, .int .u32 0, .int .u32 0, .slice none 0 0, .slice none 0 0, .int .u32 0, .slice none 0 0, .int .i64 0, .int .i64 0, .slice none 0 0] 54 (0, 0)) := jG hx
 have hi1 : ((w.alloc (.cells #[] 165)).setRow bx #[.int .u8 0, .int .u32 0, .int .u32 0, .slice none 0 0, .slice none 0 0, .int .u32 0, .slice none 0 0, .int .i64 0, .int .i64 0, .slice none 0 0]).heap[bi]? = some (.cells #[.bool false] 4 (0, 0)) := by rw [setRow_other _ _ _ _ (fun e => hne e.symm)]; exact jG hi
 have hs1 := fun (_ : True) => nZ (a := 0) (k := 0) (i := 0) (x3 := .slice none 0 0) (x4 := .slice none 0 0) (j := 0) (x6 := .slice none 0 0) (p := 0) (q := 0) (x9 := .slice none 0 0) hx1 rfl rfl rfl rfl
 have hs2 := fun (_ : True) => WW false hi1
 clear hx1 hi1 hx hi
 refine callsD_of_wpS Tryz.func108 rfl fun c₀ cs hu => ?_
 simp only [Tryz.ntmps108, List.size_toArray, List.length_cons, List.length_nil, Nat.reduceAdd, Nat.reduceSub, Array.replicate_succ,
   Array.replicate_zero, List.push_toArray, List.append_toArray, List.nil_append, List.cons_append]
 apply wpS_seq
 apply wpS_region
 simp [wpOpsS, go_sem, recoverD, hu, Exit.thenS, IX]
 refine wpS_of_wp ?_
 go_wp2
 cases c₀
 simp_all [bodyPostS, results, Tryz.results108]
theorem UD (bx bi : Nat) (w : World) :
  CallsD Tryz.prog 108 #[.pointer (some ⟨bx, 0, none⟩), .pointer (some ⟨bi, 0, none⟩)] .returning w fun e u' w' =>
   e = .returned (.tuple #[]) ∧ u' = .returning ∧ w' = w := by
 refine callsD_of_wpS Tryz.func108 rfl fun c₀ cs hu => ?_
 simp only [Tryz.ntmps108, List.size_toArray, List.length_cons, List.length_nil, Nat.reduceAdd, Nat.reduceSub, Array.replicate_succ,
   Array.replicate_zero, List.push_toArray, List.append_toArray, List.nil_append, List.cons_append]
 apply wpS_seq
 apply wpS_region
 simp [wpOpsS, go_sem, recoverD, hu, Exit.thenS]
 refine wpS_of_wp ?_
 go_wp2
 cases c₀
 simp_all [bodyPostS, results, Tryz.results108]
theorem MF {tmps : Array Value} {W : World} {bx bi : Nat} {cs : Array Value} {x : Bool} {R : Ending → World → Prop} (hp : tmps.getD 2 undef = .pointer (some ⟨bx, 0, none⟩)) (hq : tmps.getD 3 undef = .pointer (some ⟨bi, 0, none⟩))
  (hx : W.heap[bx]? = some (.cells cs 54 (0, 0))) (hs : cs.size = 10) (hi : W.heap[bi]? = some (.cells #[.bool x] 4 (0, 0))) (hR : R (.returned (.tuple #[.agg cs, .bool x])) W) : Leaves Tryz.prog Tryz.f82 tmps R [] .returning W := by
 refine ⟨_, ?_, hR⟩
 have h : Tryz.f82.results = #[.cell 2 54, .cell 3 4] := rfl
 have hp' : tmps[2]?.getD undef = .pointer (some ⟨bx, 0, none⟩) := by simpa using hp
 have hq' : tmps[3]?.getD undef = .pointer (some ⟨bi, 0, none⟩) := by simpa using hq
 have h1 := run_loadVar_row (P := Tryz.prog) W bx 54 54 cs (0, 0) _ hx Tryz.underlying54 rfl (by rw [hs]; kernel_rfl)
 have h2 := jd2 hi
 simp only [Instr.loadAt, Instr.sureAddr, Sem.run_bind, Sem.run_pure, Result.andThen] at h2
 simp [results, h, hp', hq', asAddr, h1, h2]
theorem xW {base : Nat} {x : SRec} {v : Value} {w w' : World} {g : Nat} (h : RecV base x v w) (hg : w.grownBy w' (some g)) (hlt : g < base) : RecV base x v w' := by
 obtain ⟨v3, v4, v6, v9, rfl, h3, h4, h6, h9⟩ := h
 exact ⟨v3, v4, v6, v9, rfl, jS h3 hg hlt, jS h4 hg hlt, jS h6 hg hlt, jS h9 hg hlt⟩
theorem IG {base base' : Nat} {x : SRec} {v : Value} {w : World} (h : RecV base x v w) (hle : base' ≤ base) : RecV base' x v w := by
 obtain ⟨v3, v4, v6, v9, rfl, h3, h4, h6, h9⟩ := h
 exact ⟨v3, v4, v6, v9, rfl, Kd.R_lower h3 hle, Kd.R_lower h4 hle, Kd.R_lower h6 hle, Kd.R_lower h9 hle⟩
theorem LX {w : World} {b : Nat} {c0 : Value} {t : Nat} (v : Value) (h : w.heap[b]? = some (.cells #[c0] t (0, 0))) : (w.setCell ⟨b, 0, none⟩ v).heap[b]? = some (.cells #[v] t (0, 0)) := by
 rw [setCell_eq_setRow w b 0 #[c0] t (0, 0) v h]
 exact setRow_heap w b _ _ _ _ h
theorem J6 {w : World} {b i k : Nat} (v : Value) (hne : k ≠ b) : (w.setCell ⟨b, i, none⟩ v).heap[k]? = w.heap[k]? := Below.heap_setCell _ _ _ _ hne
set_option maxRecDepth 20000 in
theorem WL (A : Option Addr) (c : Nat) (l : List UInt8) (w : World) (hC : kb.C w A l.length l) (hc : l.length ≤ c) (hm : (l.length : Int) ≤ 100000) :
  Calls Tryz.prog 82 #[.slice A l.length c] w fun e w' => Below w.heap.size w w' ∧
   ((∃ x r v, recP l = some (x, r) ∧ e = .returned (.tuple #[v, .bool true]) ∧ RecV w.heap.size x v w') ∨ (recP l = none ∧ e = .returned (.tuple #[.agg #[.int .u8 0, .int .u32 0, .int .u32 0, .slice none 0 0, .slice none 0 0, .int .u32 0, .slice none 0 0, .int .i64 0, .int .i64 0, .slice none 0 0], .bool false]))) := by
 have hmf : ∀ (fn : Fn) (first cap : Array Value) (w : World), (Instr.makeFunc fn first cap).run Tryz.prog w = .ok (.func fn first cap) w := fun _ _ _ _ => rfl
 have HC := iC.mk hC
 obtain ⟨WR, hWR⟩ : ∃ WR, WR = ((w.alloc (.cells #[.int .u8 0, .int .u32 0, .int .u32 0, .slice none 0 0, .slice none 0 0, .int .u32 0, .slice none 0 0, .int .i64 0, .int .i64 0, .slice none 0 0] 54)).alloc (.cells #[.bool false] 4)).alloc (.cells #[.slice A l.length c] 168) := ⟨_, rfl⟩
 have HW := iC.mk hWR
 have hB : Below w.heap.size w WR := by rw [hWR]; exact iD (iD (iD (Below.refl _ _) _) _) _
 have HR := iC.mk (show Rd w WR (w.heap.size + 2) l from ⟨A, c, by rw [hWR]; exact iO (by simp), hc, hC⟩)
 have HX := iC.mk (show WR.heap[w.heap.size]? = some (.cells #[.int .u8 0, .int .u32 0, .int .u32 0, .slice none 0 0, .slice none 0 0, .int .u32 0, .slice none 0 0, .int .i64 0, .int .i64 0, .slice none 0 0] 54 (0, 0)) from by rw [hWR]; exact jG (jG (iO rfl)))
 have HI := iC.mk (show WR.heap[w.heap.size + 1]? = some (.cells #[.bool false] 4 (0, 0)) from by rw [hWR]; exact jG (iO (by simp)))
 have HB := iC.mk hB
 have hsz : WR.heap.size = w.heap.size + 3 := by rw [hWR]; simp
 clear hC hWR hB
 go_enter_defers Tryz.func82, Tryz.ntmps82
 go_wp2_with fail
 rw [← HW.out]
 refine (ZI (w.heap.size + 2) l w WR HR.out HB.out (by omega) hm).mono ?_
 intro e w1 hpp
 cases hp : recP l with
 | none =>
  obtain ⟨rfl, hG⟩ := hpp.short hp
  clear hpp
  have hx1 := (hG.block _ (jC HX.out) (fun e => by injection e with e; omega)).trans HX.out
  have hi1 := (hG.block _ (jC HI.out) (fun e => by injection e with e; omega)).trans HI.out
  have HX1 := iC.mk hx1
  have HI1 := iC.mk hi1
  clear hx1 hi1
  go_wp2
  refine leaves_cons (f := 108) (args := #[.pointer (some ⟨w.heap.size, 0, none⟩), .pointer (some ⟨w.heap.size + 1, 0, none⟩)]) (by simp) (by simp [go_sem]) ?_
  refine (PI w.heap.size (w.heap.size + 1) w1 HX1.out HI1.out (by omega)).mono ?_
  rintro e u' w2 ⟨rfl, rfl, rfl⟩
  have hB2 := below_grown HB.out hG (by omega) (Nat.le_refl _)
  have hx2 := (J6 (i := 0) (.bool false) (show w.heap.size ≠ w.heap.size + 1 by omega)).trans (setRow_heap (w1.alloc (.cells #[] 165)) w.heap.size _ #[.int .u8 0, .int .u32 0, .int .u32 0, .slice none 0 0, .slice none 0 0, .int .u32 0, .slice none 0 0, .int .i64 0, .int .i64 0, .slice none 0 0] _ _ (jG HX1.out))
  have hi2 := LX (.bool false) ((setRow_other (w1.alloc (.cells #[] 165)) w.heap.size (w.heap.size + 1) #[.int .u8 0, .int .u32 0, .int .u32 0, .slice none 0 0, .slice none 0 0, .int .u32 0, .slice none 0 0, .int .i64 0, .int .i64 0, .slice none 0 0] (by omega)).trans (jG HI1.out))
  refine MF rfl rfl hx2 rfl hi2 ⟨?_, .inr ⟨hp, rfl⟩⟩
  exact iM (below_grown (iD hB2 _) (jP _ w.heap.size _) (Nat.le_refl _) (Nat.le_refl _)) (by show _ ≤ _; simp)
 | some y =>
  obtain ⟨x, r⟩ := y
  obtain ⟨v, rfl, hv, hR, hG⟩ := hpp.ok hp
  obtain ⟨v3, v4, v6, v9, rfl, h3, h4, h6, h9⟩ := hv
  obtain ⟨A3, d3, rfl⟩ := Kd.R_slice h3
  obtain ⟨A4, d4, rfl⟩ := Kd.R_slice h4
  obtain ⟨A6, d6, rfl⟩ := Kd.R_slice h6
  obtain ⟨A9, d9, rfl⟩ := Kd.R_slice h9
  have hx1 := (hG.block _ (jC HX.out) (fun e => by injection e with e; omega)).trans HX.out
  have hi1 := (hG.block _ (jC HI.out) (fun e => by injection e with e; omega)).trans HI.out
  have hs1 := fun (_ : True) => nZ (a := x.f0) (k := x.f1) (i := x.f2) (x3 := .slice A3 x.f3.length d3) (x4 := .slice A4 x.f4.length d4) (j := x.f5.f0) (x6 := .slice A6 x.f5.f1.length d6) (p := x.f6) (q := x.f7) (x9 := .slice A9 x.f8.length d9) hx1 rfl rfl rfl rfl
  have hi2 := (setRow_other w1 w.heap.size (w.heap.size + 1) #[.int .u8 x.f0, .int .u32 x.f1, .int .u32 x.f2, .slice A3 x.f3.length d3, .slice A4 x.f4.length d4, .int .u32 x.f5.f0, .slice A6 x.f5.f1.length d6, .int .i64 x.f6, .int .i64 x.f7, .slice A9 x.f8.length d9] (by omega)).trans hi1
  have hs2 := fun (_ : True) => WW true hi2
  have HX1 := iC.mk hx1
  have HI2 := iC.mk hi2
  clear hpp hx1 hi1 hi2
  go_wp2
  refine leaves_cons (f := 108) (args := #[.pointer (some ⟨w.heap.size, 0, none⟩), .pointer (some ⟨w.heap.size + 1, 0, none⟩)]) (by simp) (by simp [go_sem]) ?_
  refine (UD w.heap.size (w.heap.size + 1) _).mono ?_
  rintro e u' w2 ⟨rfl, rfl, rfl⟩
  have hB2 := below_grown HB.out hG (by omega) (Nat.le_refl _)
  have hx2 := (J6 (i := 0) (.bool true) (show w.heap.size ≠ w.heap.size + 1 by omega)).trans (setRow_heap w1 w.heap.size _ #[.int .u8 x.f0, .int .u32 x.f1, .int .u32 x.f2, .slice A3 x.f3.length d3, .slice A4 x.f4.length d4, .int .u32 x.f5.f0, .slice A6 x.f5.f1.length d6, .int .i64 x.f6, .int .i64 x.f7, .slice A9 x.f8.length d9] _ _ HX1.out)
  have hi2 := LX (.bool true) HI2.out
  refine MF rfl rfl hx2 rfl hi2 ⟨?_, .inl ⟨x, r, _, hp, rfl, ?_⟩⟩
  ·exact iM (below_grown hB2 (jP _ w.heap.size _) (Nat.le_refl _) (Nat.le_refl _)) (by show _ ≤ _; simp)
  ·exact IG (xW (xW ⟨_, _, _, _, rfl, h3, h4, h6, h9⟩ (jP w1 w.heap.size _) (by omega)) (kX _ (w.heap.size + 1) 0 _) (by omega)) (by omega)
end Go.Proofs.YtgfkgppomaapiaaGreatDoor.K
end

section
namespace Go.Proofs.YtgfkgppomaapiaaGreatDoor.K
open Go.RowKit Go.Proofs.YtgfkgppomaapiaaGreatDoorW.PrintWords Go.Proofs.YtgfkgppomaapiaaGreatDoorW.PrintLast Go.Proofs.YtgfkgppomaapiaaGreatDoorW.PrintMore
attribute [local go_sem] jZ jW kK kH
def bytes_Equal.f (l0 : List Int) (l1 : List Int) : Option (Bool) := some ((strOfNums l0).toList == (strOfNums l1).toList)
set_option maxHeartbeats 8000000 in
set_option maxRecDepth 100000 in
theorem bytes_Equal.calls (A0 : Option Addr) (c0 : Nat) (l0 : List Int) (A1 : Option Addr) (c1 : Nat) (l1 : List Int) (r : Bool) (w : World) (hr0 : Kd.C (Kd.int .u8) w A0 l0.length l0) (hc0 : l0.length ≤ c0) (hr1 : Kd.C (Kd.int .u8) w A1 l1.length l1) (hc1 : l1.length ≤ c1) (h : bytes_Equal.f l0 l1 = some r) :
  Calls Tryz.prog 83 #[.slice A0 l0.length c0, .slice A1 l1.length c1] w fun e w' => e = .returned (.bool r) ∧ jB w w' := by
 have HR0 := iC.mk hr0
 have HC0 := iC.mk hc0
 clear hr0 hc0
 have HR1 := iC.mk hr1
 have HC1 := iC.mk hc1
 clear hr1 hc1
 have H : (some ((strOfNums l0).toList == (strOfNums l1).toList)) = some r := h
 clear h
 obtain rfl := Option.some.inj H
 have hcv3 := Kd.C_string (P := Tryz.prog) (A := A0) (c := c0) Tryz.underlying22 Tryz.underlying5 Tryz.underlying9 HR0.out
 have hcv4 := Kd.C_string (P := Tryz.prog) (A := A1) (c := c1) Tryz.underlying22 Tryz.underlying5 Tryz.underlying9 HR1.out
 go_enter Tryz.func83, Tryz.ntmps83
 go_wp2
 go_ret
 exact ⟨by first | rfl | (simp; done) | (simp [*]; done), by repeat (first | exact jB.refl _ | apply jB.step)⟩
end Go.Proofs.YtgfkgppomaapiaaGreatDoor.K
end
