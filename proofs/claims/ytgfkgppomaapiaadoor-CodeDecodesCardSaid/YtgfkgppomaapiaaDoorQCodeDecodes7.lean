/- Parts of the proof, one behind the other: K48, SameP, SoundL, Apart, RefM, RefN2, RefO0, RefO, RefQ, RecOk, DecW. -/
import Derived.Test.YtgfkgppomaapiaaDoorQCodeDecodes6
set_option linter.unusedVariables false
set_option linter.unusedSimpArgs false
section
namespace Go.Proofs.YtgfkgppomaapiaaDoor.K
open Go.RowKit Go.Proofs.YtgfkgppomaapiaaDoorW.PrintWords Go.Proofs.YtgfkgppomaapiaaDoorW.PrintLast Go.Proofs.YtgfkgppomaapiaaDoorW.PrintMore
def stratumref07_Same.j0 : Nat → Bool → Int → Int → Int → List Int → List (S139) → Int → List (S98) → Int → Int → List (S86) → Int → Int → Int → List Int → List (S139) → Int → List (S98) → Int → Int → List (S86) → Option (Bool)
  | 0, _, _, _, _, _, _, _, _, _, _, _, _, _, _, _, _, _, _, _, _, _ => none
  | k + 1, x5, x227000, x227001, x227002, x227003, x227004, x227005, x227006, x227007, x227008, x227009, x228000, x228001, x228002, x228003, x228004, x228005, x228006, x228007, x228008, x228009 => if x5 = true then ((stratumref07_SameInts.f k x227003 x228003).bind fun t228 => (if t228 = true then ((stratumref07_SameFacts.f k x227004 x228004).bind fun t229 => (if t229 = true then ((stratumref07_SameMap.f k x227005 x227006 x228005 x228006).bind fun t230 => (if t230 = true then ((stratumref07_SameEntries.f x227009 x228009).bind fun t231 => (some t231)) else (some false))) else (some false))) else (some false))) else (some false)
def stratumref07_Same.f (k : Nat) (a0_0 : Int) (a0_1 : Int) (a0_2 : Int) (l0_3 : List Int) (l0_4 : List (S139)) (a0_5 : Int) (l0_6 : List (S98)) (a0_7 : Int) (a0_8 : Int) (l0_9 : List (S86)) (a1_0 : Int) (a1_1 : Int) (a1_2 : Int) (l1_3 : List Int) (l1_4 : List (S139)) (a1_5 : Int) (l1_6 : List (S98)) (a1_7 : Int) (a1_8 : Int) (l1_9 : List (S86)) : Option (Bool) := if a0_0 = a1_0 then (if a0_1 = a1_1 then (if a0_2 = a1_2 then (if a0_7 = a1_7 then (stratumref07_Same.j0 k (a0_8 == a1_8) a0_0 a0_1 a0_2 l0_3 l0_4 a0_5 l0_6 a0_7 a0_8 l0_9 a1_0 a1_1 a1_2 l1_3 l1_4 a1_5 l1_6 a1_7 a1_8 l1_9) else (stratumref07_Same.j0 k false a0_0 a0_1 a0_2 l0_3 l0_4 a0_5 l0_6 a0_7 a0_8 l0_9 a1_0 a1_1 a1_2 l1_3 l1_4 a1_5 l1_6 a1_7 a1_8 l1_9)) else (stratumref07_Same.j0 k false a0_0 a0_1 a0_2 l0_3 l0_4 a0_5 l0_6 a0_7 a0_8 l0_9 a1_0 a1_1 a1_2 l1_3 l1_4 a1_5 l1_6 a1_7 a1_8 l1_9)) else (stratumref07_Same.j0 k false a0_0 a0_1 a0_2 l0_3 l0_4 a0_5 l0_6 a0_7 a0_8 l0_9 a1_0 a1_1 a1_2 l1_3 l1_4 a1_5 l1_6 a1_7 a1_8 l1_9)) else (stratumref07_Same.j0 k false a0_0 a0_1 a0_2 l0_3 l0_4 a0_5 l0_6 a0_7 a0_8 l0_9 a1_0 a1_1 a1_2 l1_3 l1_4 a1_5 l1_6 a1_7 a1_8 l1_9)
set_option maxHeartbeats 8000000 in
set_option maxRecDepth 100000 in
theorem stratumref07_Same.calls (k : Nat) (a0_0 : Int) (a0_1 : Int) (a0_2 : Int) (A0_3 : Option Addr) (c0_3 : Nat) (l0_3 : List Int) (A0_4 : Option Addr) (c0_4 : Nat) (l0_4 : List (S139)) (a0_5 : Int) (A0_6 : Option Addr) (c0_6 : Nat) (l0_6 : List (S98)) (a0_7 : Int) (a0_8 : Int) (A0_9 : Option Addr) (c0_9 : Nat) (l0_9 : List (S86)) (a1_0 : Int) (a1_1 : Int) (a1_2 : Int) (A1_3 : Option Addr) (c1_3 : Nat) (l1_3 : List Int) (A1_4 : Option Addr) (c1_4 : Nat) (l1_4 : List (S139)) (a1_5 : Int) (A1_6 : Option Addr) (c1_6 : Nat) (l1_6 : List (S98)) (a1_7 : Int) (a1_8 : Int) (A1_9 : Option Addr) (c1_9 : Nat) (l1_9 : List (S86)) (r : Bool) (w : World) (hr0_3 : Kd.C (Kd.int .i64) w A0_3 l0_3.length l0_3) (hc0_3 : l0_3.length ≤ c0_3) (hr0_4 : Kd.C k139 w A0_4 l0_4.length l0_4) (hc0_4 : l0_4.length ≤ c0_4) (hr0_6 : Kd.C k98 w A0_6 l0_6.length l0_6) (hc0_6 : l0_6.length ≤ c0_6) (hr0_9 : Kd.C k86 w A0_9 l0_9.length l0_9) (hc0_9 : l0_9.length ≤ c0_9) (hr1_3 : Kd.C (Kd.int .i64) w A1_3 l1_3.length l1_3) (hc1_3 : l1_3.length ≤ c1_3) (hr1_4 : Kd.C k139 w A1_4 l1_4.length l1_4) (hc1_4 : l1_4.length ≤ c1_4) (hr1_6 : Kd.C k98 w A1_6 l1_6.length l1_6) (hc1_6 : l1_6.length ≤ c1_6) (hr1_9 : Kd.C k86 w A1_9 l1_9.length l1_9) (hc1_9 : l1_9.length ≤ c1_9) (h : stratumref07_Same.f k a0_0 a0_1 a0_2 l0_3 l0_4 a0_5 l0_6 a0_7 a0_8 l0_9 a1_0 a1_1 a1_2 l1_3 l1_4 a1_5 l1_6 a1_7 a1_8 l1_9 = some r) :
    Calls Tryd.prog 23 #[.agg #[.int .u8 a0_0, .int .u32 a0_1, .int .u32 a0_2, .slice A0_3 l0_3.length c0_3, .slice A0_4 l0_4.length c0_4, .int .u32 a0_5, .slice A0_6 l0_6.length c0_6, .int .i64 a0_7, .int .i64 a0_8, .slice A0_9 l0_9.length c0_9], .agg #[.int .u8 a1_0, .int .u32 a1_1, .int .u32 a1_2, .slice A1_3 l1_3.length c1_3, .slice A1_4 l1_4.length c1_4, .int .u32 a1_5, .slice A1_6 l1_6.length c1_6, .int .i64 a1_7, .int .i64 a1_8, .slice A1_9 l1_9.length c1_9]] w fun e w' => e = .returned (.bool r) ∧ Below w.heap.size w w' := by
  have hu30 := Tryd.underlying30
  have hu27 := Tryd.underlying27
  have HR0_3 := iC.mk hr0_3
  have HC0_3 := iC.mk hc0_3
  clear hr0_3 hc0_3
  have HR0_4 := iC.mk hr0_4
  have HC0_4 := iC.mk hc0_4
  clear hr0_4 hc0_4
  have HR0_6 := iC.mk hr0_6
  have HC0_6 := iC.mk hc0_6
  clear hr0_6 hc0_6
  have HR0_9 := iC.mk hr0_9
  have HC0_9 := iC.mk hc0_9
  clear hr0_9 hc0_9
  have HR1_3 := iC.mk hr1_3
  have HC1_3 := iC.mk hc1_3
  clear hr1_3 hc1_3
  have HR1_4 := iC.mk hr1_4
  have HC1_4 := iC.mk hc1_4
  clear hr1_4 hc1_4
  have HR1_6 := iC.mk hr1_6
  have HC1_6 := iC.mk hc1_6
  clear hr1_6 hc1_6
  have HR1_9 := iC.mk hr1_9
  have HC1_9 := iC.mk hc1_9
  clear hr1_9 hc1_9
  have HB := iC.mk (Below.refl w.heap.size w)
  have H : (if a0_0 = a1_0 then (if a0_1 = a1_1 then (if a0_2 = a1_2 then (if a0_7 = a1_7 then (stratumref07_Same.j0 k (a0_8 == a1_8) a0_0 a0_1 a0_2 l0_3 l0_4 a0_5 l0_6 a0_7 a0_8 l0_9 a1_0 a1_1 a1_2 l1_3 l1_4 a1_5 l1_6 a1_7 a1_8 l1_9) else (stratumref07_Same.j0 k false a0_0 a0_1 a0_2 l0_3 l0_4 a0_5 l0_6 a0_7 a0_8 l0_9 a1_0 a1_1 a1_2 l1_3 l1_4 a1_5 l1_6 a1_7 a1_8 l1_9)) else (stratumref07_Same.j0 k false a0_0 a0_1 a0_2 l0_3 l0_4 a0_5 l0_6 a0_7 a0_8 l0_9 a1_0 a1_1 a1_2 l1_3 l1_4 a1_5 l1_6 a1_7 a1_8 l1_9)) else (stratumref07_Same.j0 k false a0_0 a0_1 a0_2 l0_3 l0_4 a0_5 l0_6 a0_7 a0_8 l0_9 a1_0 a1_1 a1_2 l1_3 l1_4 a1_5 l1_6 a1_7 a1_8 l1_9)) else (stratumref07_Same.j0 k false a0_0 a0_1 a0_2 l0_3 l0_4 a0_5 l0_6 a0_7 a0_8 l0_9 a1_0 a1_1 a1_2 l1_3 l1_4 a1_5 l1_6 a1_7 a1_8 l1_9)) = some r := h
  clear h
  have HC3 := iC.mk H
  clear H
  go_enter Tryd.func23, Tryd.ntmps23
  go_upto_region 1 with (first | ((with_reducible refine jS (N := 2) rfl ?_); refine jI ?hg (N := 2) ?hd (cs := #[.int .u8 a0_0, .int .u32 a0_1, .int .u32 a0_2, .slice A0_3 l0_3.length c0_3, .slice A0_4 l0_4.length c0_4, .int .u32 a0_5, .slice A0_6 l0_6.length c0_6, .int .i64 a0_7, .int .i64 a0_8, .slice A0_9 l0_9.length c0_9]) (t := 30) ?hr ?_; (case hd => rfl); (case hg => rfl); (case hr => first | (go_simp; done) | (go_simp; rfl)); intro gb226 hg w4 hbox hb; have n0_ := iC.mk (iI hb_ hb); have n1_ := iC.mk (hbox); have n2_ := iC.mk ((by rw [hg]; exact (iQ hb_) : w.heap.size ≤ gb226)); have n3_ := iC.mk ((by rw [hg]; exact (iQ hb_) : w.heap.size ≤ gb226)); clear HB; have HB := n0_; have BK226 := n1_; have GW226 := n2_; have GE226 := n3_; clear n0_ n1_ n2_ n3_; clear hb hbox hg) | ((with_reducible refine jS (N := 3) rfl ?_); refine jI ?hg (N := 3) ?hd (cs := #[.int .u8 a1_0, .int .u32 a1_1, .int .u32 a1_2, .slice A1_3 l1_3.length c1_3, .slice A1_4 l1_4.length c1_4, .int .u32 a1_5, .slice A1_6 l1_6.length c1_6, .int .i64 a1_7, .int .i64 a1_8, .slice A1_9 l1_9.length c1_9]) (t := 30) ?hr ?_; (case hd => rfl); (case hg => rfl); (case hr => first | (go_simp; done) | (go_simp; rfl)); intro gb227 hg w5 hbox hb; have n0_ := iC.mk (jF (g := gb226) (o := .cells #[.int .u8 a0_0, .int .u32 a0_1, .int .u32 a0_2, .slice A0_3 l0_3.length c0_3, .slice A0_4 l0_4.length c0_4, .int .u32 a0_5, .slice A0_6 l0_6.length c0_6, .int .i64 a0_7, .int .i64 a0_8, .slice A0_9 l0_9.length c0_9] 30 (0, 0)) (bk_ BK226.out) hb); have n1_ := iC.mk (iI (by repeat (first | (with_reducible first | exact HB.out | apply iF | apply iG | apply iH | refine iJ ?_ GE226.out) | exact HB.out)) hb); have n2_ := iC.mk (hbox); have n3_ := iC.mk ((by rw [hg]; exact (iQ (by repeat (first | (with_reducible first | exact HB.out | apply iF | apply iG | apply iH | refine iJ ?_ GE226.out) | exact HB.out))) : w.heap.size ≤ gb227)); have n4_ := iC.mk ((by rw [hg]; exact (iQ (by repeat (first | (with_reducible first | exact HB.out | apply iF | apply iG | apply iH | refine iJ ?_ GE226.out) | exact HB.out))) : w.heap.size ≤ gb227)); have n5_ := iC.mk ((by rw [hg]; exact Nat.ne_of_lt (iZ (g := gb226) (o := .cells #[.int .u8 a0_0, .int .u32 a0_1, .int .u32 a0_2, .slice A0_3 l0_3.length c0_3, .slice A0_4 l0_4.length c0_4, .int .u32 a0_5, .slice A0_6 l0_6.length c0_6, .int .i64 a0_7, .int .i64 a0_8, .slice A0_9 l0_9.length c0_9] 30 (0, 0)) (bk_ BK226.out)) : gb226 ≠ gb227)); have n6_ := iC.mk ((by rw [hg]; exact Nat.ne_of_gt (iZ (g := gb226) (o := .cells #[.int .u8 a0_0, .int .u32 a0_1, .int .u32 a0_2, .slice A0_3 l0_3.length c0_3, .slice A0_4 l0_4.length c0_4, .int .u32 a0_5, .slice A0_6 l0_6.length c0_6, .int .i64 a0_7, .int .i64 a0_8, .slice A0_9 l0_9.length c0_9] 30 (0, 0)) (bk_ BK226.out)) : gb227 ≠ gb226)); clear BK226; clear HB; have BK226 := n0_; have HB := n1_; have BK227 := n2_; have GW227 := n3_; have GE227 := n4_; have NB226_227 := n5_; have NB227_226 := n6_; clear n0_ n1_ n2_ n3_ n4_ n5_ n6_; clear hb hbox hg))
  (try simp only [Act.put, List.setIfInBounds_toArray, List.set_cons_zero, List.set_cons_succ])
  go_cut [5] (fun v5 wc => ∃ (kq : Nat) (x5_2 : Bool), v5 = .bool x5_2 ∧ iC (stratumref07_Same.j0 kq x5_2 a0_0 a0_1 a0_2 l0_3 l0_4 a0_5 l0_6 a0_7 a0_8 l0_9 a1_0 a1_1 a1_2 l1_3 l1_4 a1_5 l1_6 a1_7 a1_8 l1_9 = some r) ∧ iC (kq ≤ k) ∧ iC (wc.heap[gb226]? = some (.cells #[.int .u8 a0_0, .int .u32 a0_1, .int .u32 a0_2, (.slice A0_3 l0_3.length c0_3), (.slice A0_4 l0_4.length c0_4), .int .u32 a0_5, (.slice A0_6 l0_6.length c0_6), .int .i64 a0_7, .int .i64 a0_8, (.slice A0_9 l0_9.length c0_9)] 30 (0, 0))) ∧ iC (wc.heap[gb227]? = some (.cells #[.int .u8 a1_0, .int .u32 a1_1, .int .u32 a1_2, (.slice A1_3 l1_3.length c1_3), (.slice A1_4 l1_4.length c1_4), .int .u32 a1_5, (.slice A1_6 l1_6.length c1_6), .int .i64 a1_7, .int .i64 a1_8, (.slice A1_9 l1_9.length c1_9)] 30 (0, 0))) ∧ iC (Below w.heap.size w wc))
  case first =>
    have H := HC3.out
    clear HC3
    by_cases c6 : a0_0 = a1_0
    · rw [if_pos c6] at H
      have c6b0 : (a0_0 == a1_0) = true := beq_iff_eq.mpr c6
      have c6b1 : (a0_0 != a1_0) = false := bne_eq_false_iff_eq.mpr c6
      clear c6
      (first | rw [c6b0] | (simp only [iY, jB]; rw [c6b0]) | skip)
      by_cases c7 : a0_1 = a1_1
      · rw [if_pos c7] at H
        have c7b0 : (a0_1 == a1_1) = true := beq_iff_eq.mpr c7
        have c7b1 : (a0_1 != a1_1) = false := bne_eq_false_iff_eq.mpr c7
        clear c7
        by_cases c8 : a0_2 = a1_2
        · rw [if_pos c8] at H
          have c8b0 : (a0_2 == a1_2) = true := beq_iff_eq.mpr c8
          have c8b1 : (a0_2 != a1_2) = false := bne_eq_false_iff_eq.mpr c8
          clear c8
          by_cases c9 : a0_7 = a1_7
          · rw [if_pos c9] at H
            have c9b0 : (a0_7 == a1_7) = true := beq_iff_eq.mpr c9
            have c9b1 : (a0_7 != a1_7) = false := bne_eq_false_iff_eq.mpr c9
            clear c9
            have H' := iC.mk H
            clear H
            have hnb10 := NB226_227.out
            have hnc10 := NB227_226.out
            have hcz11_0 : w5.cell? ⟨gb226, 0, none⟩ = some (.int .u8 a0_0) := (iE BK226.out 0).trans rfl
            have hcz11_1 : w5.cell? ⟨gb226, 1, none⟩ = some (.int .u32 a0_1) := (iE BK226.out 1).trans rfl
            have hcz11_2 : w5.cell? ⟨gb226, 2, none⟩ = some (.int .u32 a0_2) := (iE BK226.out 2).trans rfl
            have hcz11_3 : w5.cell? ⟨gb226, 3, none⟩ = some (.slice A0_3 l0_3.length c0_3) := (iE BK226.out 3).trans rfl
            have hcz11_4 : w5.cell? ⟨gb226, 4, none⟩ = some (.slice A0_4 l0_4.length c0_4) := (iE BK226.out 4).trans rfl
            have hcz11_5 : w5.cell? ⟨gb226, 5, none⟩ = some (.int .u32 a0_5) := (iE BK226.out 5).trans rfl
            have hcz11_6 : w5.cell? ⟨gb226, 6, none⟩ = some (.slice A0_6 l0_6.length c0_6) := (iE BK226.out 6).trans rfl
            have hcz11_7 : w5.cell? ⟨gb226, 7, none⟩ = some (.int .i64 a0_7) := (iE BK226.out 7).trans rfl
            have hcz11_8 : w5.cell? ⟨gb226, 8, none⟩ = some (.int .i64 a0_8) := (iE BK226.out 8).trans rfl
            have hcz11_9 : w5.cell? ⟨gb226, 9, none⟩ = some (.slice A0_9 l0_9.length c0_9) := (iE BK226.out 9).trans rfl
            have hfz11_0 := iD BK226.out 0
            have hfz11_1 := iD BK226.out 1
            have hfz11_2 := iD BK226.out 2
            have hfz11_3 := iD BK226.out 3
            have hfz11_4 := iD BK226.out 4
            have hfz11_5 := iD BK226.out 5
            have hfz11_6 := iD BK226.out 6
            have hfz11_7 := iD BK226.out 7
            have hfz11_8 := iD BK226.out 8
            have hfz11_9 := iD BK226.out 9
            have hcz12_0 : w5.cell? ⟨gb227, 0, none⟩ = some (.int .u8 a1_0) := (iE BK227.out 0).trans rfl
            have hcz12_1 : w5.cell? ⟨gb227, 1, none⟩ = some (.int .u32 a1_1) := (iE BK227.out 1).trans rfl
            have hcz12_2 : w5.cell? ⟨gb227, 2, none⟩ = some (.int .u32 a1_2) := (iE BK227.out 2).trans rfl
            have hcz12_3 : w5.cell? ⟨gb227, 3, none⟩ = some (.slice A1_3 l1_3.length c1_3) := (iE BK227.out 3).trans rfl
            have hcz12_4 : w5.cell? ⟨gb227, 4, none⟩ = some (.slice A1_4 l1_4.length c1_4) := (iE BK227.out 4).trans rfl
            have hcz12_5 : w5.cell? ⟨gb227, 5, none⟩ = some (.int .u32 a1_5) := (iE BK227.out 5).trans rfl
            have hcz12_6 : w5.cell? ⟨gb227, 6, none⟩ = some (.slice A1_6 l1_6.length c1_6) := (iE BK227.out 6).trans rfl
            have hcz12_7 : w5.cell? ⟨gb227, 7, none⟩ = some (.int .i64 a1_7) := (iE BK227.out 7).trans rfl
            have hcz12_8 : w5.cell? ⟨gb227, 8, none⟩ = some (.int .i64 a1_8) := (iE BK227.out 8).trans rfl
            have hcz12_9 : w5.cell? ⟨gb227, 9, none⟩ = some (.slice A1_9 l1_9.length c1_9) := (iE BK227.out 9).trans rfl
            have hfz12_0 := iD BK227.out 0
            have hfz12_1 := iD BK227.out 1
            have hfz12_2 := iD BK227.out 2
            have hfz12_3 := iD BK227.out 3
            have hfz12_4 := iD BK227.out 4
            have hfz12_5 := iD BK227.out 5
            have hfz12_6 := iD BK227.out 6
            have hfz12_7 := iD BK227.out 7
            have hfz12_8 := iD BK227.out 8
            have hfz12_9 := iD BK227.out 9
            go_wp2
            go_meet
            case rel => exact ⟨_, ((a0_8 == a1_8)), (by first | rfl | (simp; done) | (simp [*]; done)), H', ⟨by first | omega | exact Nat.le_refl _⟩, ⟨bk_ BK226.out⟩, ⟨bk_ BK227.out⟩, ⟨by repeat (first | (with_reducible first | exact HB.out | apply iF | apply iG | apply iH | refine iJ ?_ GE226.out | refine iJ ?_ GE227.out) | exact HB.out)⟩⟩
          · rw [if_neg c9] at H
            have c9b0 : (a0_7 == a1_7) = false := beq_eq_false_iff_ne.mpr c9
            have c9b1 : (a0_7 != a1_7) = true := bne_iff_ne.mpr c9
            have H' := iC.mk H
            clear H
            have hnb13 := NB226_227.out
            have hnc13 := NB227_226.out
            have hcz14_0 : w5.cell? ⟨gb226, 0, none⟩ = some (.int .u8 a0_0) := (iE BK226.out 0).trans rfl
            have hcz14_1 : w5.cell? ⟨gb226, 1, none⟩ = some (.int .u32 a0_1) := (iE BK226.out 1).trans rfl
            have hcz14_2 : w5.cell? ⟨gb226, 2, none⟩ = some (.int .u32 a0_2) := (iE BK226.out 2).trans rfl
            have hcz14_3 : w5.cell? ⟨gb226, 3, none⟩ = some (.slice A0_3 l0_3.length c0_3) := (iE BK226.out 3).trans rfl
            have hcz14_4 : w5.cell? ⟨gb226, 4, none⟩ = some (.slice A0_4 l0_4.length c0_4) := (iE BK226.out 4).trans rfl
            have hcz14_5 : w5.cell? ⟨gb226, 5, none⟩ = some (.int .u32 a0_5) := (iE BK226.out 5).trans rfl
            have hcz14_6 : w5.cell? ⟨gb226, 6, none⟩ = some (.slice A0_6 l0_6.length c0_6) := (iE BK226.out 6).trans rfl
            have hcz14_7 : w5.cell? ⟨gb226, 7, none⟩ = some (.int .i64 a0_7) := (iE BK226.out 7).trans rfl
            have hcz14_8 : w5.cell? ⟨gb226, 8, none⟩ = some (.int .i64 a0_8) := (iE BK226.out 8).trans rfl
            have hcz14_9 : w5.cell? ⟨gb226, 9, none⟩ = some (.slice A0_9 l0_9.length c0_9) := (iE BK226.out 9).trans rfl
            have hfz14_0 := iD BK226.out 0
            have hfz14_1 := iD BK226.out 1
            have hfz14_2 := iD BK226.out 2
            have hfz14_3 := iD BK226.out 3
            have hfz14_4 := iD BK226.out 4
            have hfz14_5 := iD BK226.out 5
            have hfz14_6 := iD BK226.out 6
            have hfz14_7 := iD BK226.out 7
            have hfz14_8 := iD BK226.out 8
            have hfz14_9 := iD BK226.out 9
            have hcz15_0 : w5.cell? ⟨gb227, 0, none⟩ = some (.int .u8 a1_0) := (iE BK227.out 0).trans rfl
            have hcz15_1 : w5.cell? ⟨gb227, 1, none⟩ = some (.int .u32 a1_1) := (iE BK227.out 1).trans rfl
            have hcz15_2 : w5.cell? ⟨gb227, 2, none⟩ = some (.int .u32 a1_2) := (iE BK227.out 2).trans rfl
            have hcz15_3 : w5.cell? ⟨gb227, 3, none⟩ = some (.slice A1_3 l1_3.length c1_3) := (iE BK227.out 3).trans rfl
            have hcz15_4 : w5.cell? ⟨gb227, 4, none⟩ = some (.slice A1_4 l1_4.length c1_4) := (iE BK227.out 4).trans rfl
            have hcz15_5 : w5.cell? ⟨gb227, 5, none⟩ = some (.int .u32 a1_5) := (iE BK227.out 5).trans rfl
            have hcz15_6 : w5.cell? ⟨gb227, 6, none⟩ = some (.slice A1_6 l1_6.length c1_6) := (iE BK227.out 6).trans rfl
            have hcz15_7 : w5.cell? ⟨gb227, 7, none⟩ = some (.int .i64 a1_7) := (iE BK227.out 7).trans rfl
            have hcz15_8 : w5.cell? ⟨gb227, 8, none⟩ = some (.int .i64 a1_8) := (iE BK227.out 8).trans rfl
            have hcz15_9 : w5.cell? ⟨gb227, 9, none⟩ = some (.slice A1_9 l1_9.length c1_9) := (iE BK227.out 9).trans rfl
            have hfz15_0 := iD BK227.out 0
            have hfz15_1 := iD BK227.out 1
            have hfz15_2 := iD BK227.out 2
            have hfz15_3 := iD BK227.out 3
            have hfz15_4 := iD BK227.out 4
            have hfz15_5 := iD BK227.out 5
            have hfz15_6 := iD BK227.out 6
            have hfz15_7 := iD BK227.out 7
            have hfz15_8 := iD BK227.out 8
            have hfz15_9 := iD BK227.out 9
            go_wp2
            go_meet
            case rel => exact ⟨_, (false), (by first | rfl | (simp; done) | (simp [*]; done)), H', ⟨by first | omega | exact Nat.le_refl _⟩, ⟨bk_ BK226.out⟩, ⟨bk_ BK227.out⟩, ⟨by repeat (first | (with_reducible first | exact HB.out | apply iF | apply iG | apply iH | refine iJ ?_ GE226.out | refine iJ ?_ GE227.out) | exact HB.out)⟩⟩
        · rw [if_neg c8] at H
          have c8b0 : (a0_2 == a1_2) = false := beq_eq_false_iff_ne.mpr c8
          have c8b1 : (a0_2 != a1_2) = true := bne_iff_ne.mpr c8
          have H' := iC.mk H
          clear H
          have hnb16 := NB226_227.out
          have hnc16 := NB227_226.out
          have hcz17_0 : w5.cell? ⟨gb226, 0, none⟩ = some (.int .u8 a0_0) := (iE BK226.out 0).trans rfl
          have hcz17_1 : w5.cell? ⟨gb226, 1, none⟩ = some (.int .u32 a0_1) := (iE BK226.out 1).trans rfl
          have hcz17_2 : w5.cell? ⟨gb226, 2, none⟩ = some (.int .u32 a0_2) := (iE BK226.out 2).trans rfl
          have hcz17_3 : w5.cell? ⟨gb226, 3, none⟩ = some (.slice A0_3 l0_3.length c0_3) := (iE BK226.out 3).trans rfl
          have hcz17_4 : w5.cell? ⟨gb226, 4, none⟩ = some (.slice A0_4 l0_4.length c0_4) := (iE BK226.out 4).trans rfl
          have hcz17_5 : w5.cell? ⟨gb226, 5, none⟩ = some (.int .u32 a0_5) := (iE BK226.out 5).trans rfl
          have hcz17_6 : w5.cell? ⟨gb226, 6, none⟩ = some (.slice A0_6 l0_6.length c0_6) := (iE BK226.out 6).trans rfl
          have hcz17_7 : w5.cell? ⟨gb226, 7, none⟩ = some (.int .i64 a0_7) := (iE BK226.out 7).trans rfl
          have hcz17_8 : w5.cell? ⟨gb226, 8, none⟩ = some (.int .i64 a0_8) := (iE BK226.out 8).trans rfl
          have hcz17_9 : w5.cell? ⟨gb226, 9, none⟩ = some (.slice A0_9 l0_9.length c0_9) := (iE BK226.out 9).trans rfl
          have hfz17_0 := iD BK226.out 0
          have hfz17_1 := iD BK226.out 1
          have hfz17_2 := iD BK226.out 2
          have hfz17_3 := iD BK226.out 3
          have hfz17_4 := iD BK226.out 4
          have hfz17_5 := iD BK226.out 5
          have hfz17_6 := iD BK226.out 6
          have hfz17_7 := iD BK226.out 7
          have hfz17_8 := iD BK226.out 8
          have hfz17_9 := iD BK226.out 9
          have hcz18_0 : w5.cell? ⟨gb227, 0, none⟩ = some (.int .u8 a1_0) := (iE BK227.out 0).trans rfl
          have hcz18_1 : w5.cell? ⟨gb227, 1, none⟩ = some (.int .u32 a1_1) := (iE BK227.out 1).trans rfl
          have hcz18_2 : w5.cell? ⟨gb227, 2, none⟩ = some (.int .u32 a1_2) := (iE BK227.out 2).trans rfl
          have hcz18_3 : w5.cell? ⟨gb227, 3, none⟩ = some (.slice A1_3 l1_3.length c1_3) := (iE BK227.out 3).trans rfl
          have hcz18_4 : w5.cell? ⟨gb227, 4, none⟩ = some (.slice A1_4 l1_4.length c1_4) := (iE BK227.out 4).trans rfl
          have hcz18_5 : w5.cell? ⟨gb227, 5, none⟩ = some (.int .u32 a1_5) := (iE BK227.out 5).trans rfl
          have hcz18_6 : w5.cell? ⟨gb227, 6, none⟩ = some (.slice A1_6 l1_6.length c1_6) := (iE BK227.out 6).trans rfl
          have hcz18_7 : w5.cell? ⟨gb227, 7, none⟩ = some (.int .i64 a1_7) := (iE BK227.out 7).trans rfl
          have hcz18_8 : w5.cell? ⟨gb227, 8, none⟩ = some (.int .i64 a1_8) := (iE BK227.out 8).trans rfl
          have hcz18_9 : w5.cell? ⟨gb227, 9, none⟩ = some (.slice A1_9 l1_9.length c1_9) := (iE BK227.out 9).trans rfl
          have hfz18_0 := iD BK227.out 0
          have hfz18_1 := iD BK227.out 1
          have hfz18_2 := iD BK227.out 2
          have hfz18_3 := iD BK227.out 3
          have hfz18_4 := iD BK227.out 4
          have hfz18_5 := iD BK227.out 5
          have hfz18_6 := iD BK227.out 6
          have hfz18_7 := iD BK227.out 7
          have hfz18_8 := iD BK227.out 8
          have hfz18_9 := iD BK227.out 9
          go_wp2
          go_meet
          case rel => exact ⟨_, (false), (by first | rfl | (simp; done) | (simp [*]; done)), H', ⟨by first | omega | exact Nat.le_refl _⟩, ⟨bk_ BK226.out⟩, ⟨bk_ BK227.out⟩, ⟨by repeat (first | (with_reducible first | exact HB.out | apply iF | apply iG | apply iH | refine iJ ?_ GE226.out | refine iJ ?_ GE227.out) | exact HB.out)⟩⟩
      · rw [if_neg c7] at H
        have c7b0 : (a0_1 == a1_1) = false := beq_eq_false_iff_ne.mpr c7
        have c7b1 : (a0_1 != a1_1) = true := bne_iff_ne.mpr c7
        have H' := iC.mk H
        clear H
        have hnb19 := NB226_227.out
        have hnc19 := NB227_226.out
        have hcz20_0 : w5.cell? ⟨gb226, 0, none⟩ = some (.int .u8 a0_0) := (iE BK226.out 0).trans rfl
        have hcz20_1 : w5.cell? ⟨gb226, 1, none⟩ = some (.int .u32 a0_1) := (iE BK226.out 1).trans rfl
        have hcz20_2 : w5.cell? ⟨gb226, 2, none⟩ = some (.int .u32 a0_2) := (iE BK226.out 2).trans rfl
        have hcz20_3 : w5.cell? ⟨gb226, 3, none⟩ = some (.slice A0_3 l0_3.length c0_3) := (iE BK226.out 3).trans rfl
        have hcz20_4 : w5.cell? ⟨gb226, 4, none⟩ = some (.slice A0_4 l0_4.length c0_4) := (iE BK226.out 4).trans rfl
        have hcz20_5 : w5.cell? ⟨gb226, 5, none⟩ = some (.int .u32 a0_5) := (iE BK226.out 5).trans rfl
        have hcz20_6 : w5.cell? ⟨gb226, 6, none⟩ = some (.slice A0_6 l0_6.length c0_6) := (iE BK226.out 6).trans rfl
        have hcz20_7 : w5.cell? ⟨gb226, 7, none⟩ = some (.int .i64 a0_7) := (iE BK226.out 7).trans rfl
        have hcz20_8 : w5.cell? ⟨gb226, 8, none⟩ = some (.int .i64 a0_8) := (iE BK226.out 8).trans rfl
        have hcz20_9 : w5.cell? ⟨gb226, 9, none⟩ = some (.slice A0_9 l0_9.length c0_9) := (iE BK226.out 9).trans rfl
        have hfz20_0 := iD BK226.out 0
        have hfz20_1 := iD BK226.out 1
        have hfz20_2 := iD BK226.out 2
        have hfz20_3 := iD BK226.out 3
        have hfz20_4 := iD BK226.out 4
        have hfz20_5 := iD BK226.out 5
        have hfz20_6 := iD BK226.out 6
        have hfz20_7 := iD BK226.out 7
        have hfz20_8 := iD BK226.out 8
        have hfz20_9 := iD BK226.out 9
        have hcz21_0 : w5.cell? ⟨gb227, 0, none⟩ = some (.int .u8 a1_0) := (iE BK227.out 0).trans rfl
        have hcz21_1 : w5.cell? ⟨gb227, 1, none⟩ = some (.int .u32 a1_1) := (iE BK227.out 1).trans rfl
        have hcz21_2 : w5.cell? ⟨gb227, 2, none⟩ = some (.int .u32 a1_2) := (iE BK227.out 2).trans rfl
        have hcz21_3 : w5.cell? ⟨gb227, 3, none⟩ = some (.slice A1_3 l1_3.length c1_3) := (iE BK227.out 3).trans rfl
        have hcz21_4 : w5.cell? ⟨gb227, 4, none⟩ = some (.slice A1_4 l1_4.length c1_4) := (iE BK227.out 4).trans rfl
        have hcz21_5 : w5.cell? ⟨gb227, 5, none⟩ = some (.int .u32 a1_5) := (iE BK227.out 5).trans rfl
        have hcz21_6 : w5.cell? ⟨gb227, 6, none⟩ = some (.slice A1_6 l1_6.length c1_6) := (iE BK227.out 6).trans rfl
        have hcz21_7 : w5.cell? ⟨gb227, 7, none⟩ = some (.int .i64 a1_7) := (iE BK227.out 7).trans rfl
        have hcz21_8 : w5.cell? ⟨gb227, 8, none⟩ = some (.int .i64 a1_8) := (iE BK227.out 8).trans rfl
        have hcz21_9 : w5.cell? ⟨gb227, 9, none⟩ = some (.slice A1_9 l1_9.length c1_9) := (iE BK227.out 9).trans rfl
        have hfz21_0 := iD BK227.out 0
        have hfz21_1 := iD BK227.out 1
        have hfz21_2 := iD BK227.out 2
        have hfz21_3 := iD BK227.out 3
        have hfz21_4 := iD BK227.out 4
        have hfz21_5 := iD BK227.out 5
        have hfz21_6 := iD BK227.out 6
        have hfz21_7 := iD BK227.out 7
        have hfz21_8 := iD BK227.out 8
        have hfz21_9 := iD BK227.out 9
        go_wp2
        go_meet
        case rel => exact ⟨_, (false), (by first | rfl | (simp; done) | (simp [*]; done)), H', ⟨by first | omega | exact Nat.le_refl _⟩, ⟨bk_ BK226.out⟩, ⟨bk_ BK227.out⟩, ⟨by repeat (first | (with_reducible first | exact HB.out | apply iF | apply iG | apply iH | refine iJ ?_ GE226.out | refine iJ ?_ GE227.out) | exact HB.out)⟩⟩
    · rw [if_neg c6] at H
      have c6b0 : (a0_0 == a1_0) = false := beq_eq_false_iff_ne.mpr c6
      have c6b1 : (a0_0 != a1_0) = true := bne_iff_ne.mpr c6
      (first | rw [c6b0] | (simp only [iY, jB]; rw [c6b0]) | skip)
      have H' := iC.mk H
      clear H
      have hnb22 := NB226_227.out
      have hnc22 := NB227_226.out
      have hcz23_0 : w5.cell? ⟨gb226, 0, none⟩ = some (.int .u8 a0_0) := (iE BK226.out 0).trans rfl
      have hcz23_1 : w5.cell? ⟨gb226, 1, none⟩ = some (.int .u32 a0_1) := (iE BK226.out 1).trans rfl
      have hcz23_2 : w5.cell? ⟨gb226, 2, none⟩ = some (.int .u32 a0_2) := (iE BK226.out 2).trans rfl
      have hcz23_3 : w5.cell? ⟨gb226, 3, none⟩ = some (.slice A0_3 l0_3.length c0_3) := (iE BK226.out 3).trans rfl
      have hcz23_4 : w5.cell? ⟨gb226, 4, none⟩ = some (.slice A0_4 l0_4.length c0_4) := (iE BK226.out 4).trans rfl
      have hcz23_5 : w5.cell? ⟨gb226, 5, none⟩ = some (.int .u32 a0_5) := (iE BK226.out 5).trans rfl
      have hcz23_6 : w5.cell? ⟨gb226, 6, none⟩ = some (.slice A0_6 l0_6.length c0_6) := (iE BK226.out 6).trans rfl
      have hcz23_7 : w5.cell? ⟨gb226, 7, none⟩ = some (.int .i64 a0_7) := (iE BK226.out 7).trans rfl
      have hcz23_8 : w5.cell? ⟨gb226, 8, none⟩ = some (.int .i64 a0_8) := (iE BK226.out 8).trans rfl
      have hcz23_9 : w5.cell? ⟨gb226, 9, none⟩ = some (.slice A0_9 l0_9.length c0_9) := (iE BK226.out 9).trans rfl
      have hfz23_0 := iD BK226.out 0
      have hfz23_1 := iD BK226.out 1
      have hfz23_2 := iD BK226.out 2
      have hfz23_3 := iD BK226.out 3
      have hfz23_4 := iD BK226.out 4
      have hfz23_5 := iD BK226.out 5
      have hfz23_6 := iD BK226.out 6
      have hfz23_7 := iD BK226.out 7
      have hfz23_8 := iD BK226.out 8
      have hfz23_9 := iD BK226.out 9
      have hcz24_0 : w5.cell? ⟨gb227, 0, none⟩ = some (.int .u8 a1_0) := (iE BK227.out 0).trans rfl
      have hcz24_1 : w5.cell? ⟨gb227, 1, none⟩ = some (.int .u32 a1_1) := (iE BK227.out 1).trans rfl
      have hcz24_2 : w5.cell? ⟨gb227, 2, none⟩ = some (.int .u32 a1_2) := (iE BK227.out 2).trans rfl
      have hcz24_3 : w5.cell? ⟨gb227, 3, none⟩ = some (.slice A1_3 l1_3.length c1_3) := (iE BK227.out 3).trans rfl
      have hcz24_4 : w5.cell? ⟨gb227, 4, none⟩ = some (.slice A1_4 l1_4.length c1_4) := (iE BK227.out 4).trans rfl
      have hcz24_5 : w5.cell? ⟨gb227, 5, none⟩ = some (.int .u32 a1_5) := (iE BK227.out 5).trans rfl
      have hcz24_6 : w5.cell? ⟨gb227, 6, none⟩ = some (.slice A1_6 l1_6.length c1_6) := (iE BK227.out 6).trans rfl
      have hcz24_7 : w5.cell? ⟨gb227, 7, none⟩ = some (.int .i64 a1_7) := (iE BK227.out 7).trans rfl
      have hcz24_8 : w5.cell? ⟨gb227, 8, none⟩ = some (.int .i64 a1_8) := (iE BK227.out 8).trans rfl
      have hcz24_9 : w5.cell? ⟨gb227, 9, none⟩ = some (.slice A1_9 l1_9.length c1_9) := (iE BK227.out 9).trans rfl
      have hfz24_0 := iD BK227.out 0
      have hfz24_1 := iD BK227.out 1
      have hfz24_2 := iD BK227.out 2
      have hfz24_3 := iD BK227.out 3
      have hfz24_4 := iD BK227.out 4
      have hfz24_5 := iD BK227.out 5
      have hfz24_6 := iD BK227.out 6
      have hfz24_7 := iD BK227.out 7
      have hfz24_8 := iD BK227.out 8
      have hfz24_9 := iD BK227.out 9
      go_wp2
      go_meet
      case rel => exact ⟨_, (false), (by first | rfl | (simp; done) | (simp [*]; done)), H', ⟨by first | omega | exact Nat.le_refl _⟩, ⟨bk_ BK226.out⟩, ⟨bk_ BK227.out⟩, ⟨by repeat (first | (with_reducible first | exact HB.out | apply iF | apply iG | apply iH | refine iJ ?_ GE226.out | refine iJ ?_ GE227.out) | exact HB.out)⟩⟩
  case rest =>
    clear HC3
    try clear c1
    try clear c2
    try clear p2
    try clear c6
    try clear c6b0
    try clear c6b1
    try clear c7
    try clear c7b0
    try clear c7b1
    try clear c8
    try clear c8b0
    try clear c8b1
    try clear c9
    try clear c9b0
    try clear c9b1
    try clear c10
    try clear c13
    try clear c16
    try clear c19
    try clear c22
    try clear c23
    try clear hcz11_0
    try clear hcz11_1
    try clear hcz11_2
    try clear hcz11_3
    try clear hcz11_4
    try clear hcz11_5
    try clear hcz11_6
    try clear hcz11_7
    try clear hcz11_8
    try clear hcz11_9
    try clear hcz12_0
    try clear hcz12_1
    try clear hcz12_2
    try clear hcz12_3
    try clear hcz12_4
    try clear hcz12_5
    try clear hcz12_6
    try clear hcz12_7
    try clear hcz12_8
    try clear hcz12_9
    try clear hcz14_0
    try clear hcz14_1
    try clear hcz14_2
    try clear hcz14_3
    try clear hcz14_4
    try clear hcz14_5
    try clear hcz14_6
    try clear hcz14_7
    try clear hcz14_8
    try clear hcz14_9
    try clear hcz15_0
    try clear hcz15_1
    try clear hcz15_2
    try clear hcz15_3
    try clear hcz15_4
    try clear hcz15_5
    try clear hcz15_6
    try clear hcz15_7
    try clear hcz15_8
    try clear hcz15_9
    try clear hcz17_0
    try clear hcz17_1
    try clear hcz17_2
    try clear hcz17_3
    try clear hcz17_4
    try clear hcz17_5
    try clear hcz17_6
    try clear hcz17_7
    try clear hcz17_8
    try clear hcz17_9
    try clear hcz18_0
    try clear hcz18_1
    try clear hcz18_2
    try clear hcz18_3
    try clear hcz18_4
    try clear hcz18_5
    try clear hcz18_6
    try clear hcz18_7
    try clear hcz18_8
    try clear hcz18_9
    try clear hcz20_0
    try clear hcz20_1
    try clear hcz20_2
    try clear hcz20_3
    try clear hcz20_4
    try clear hcz20_5
    try clear hcz20_6
    try clear hcz20_7
    try clear hcz20_8
    try clear hcz20_9
    try clear hcz21_0
    try clear hcz21_1
    try clear hcz21_2
    try clear hcz21_3
    try clear hcz21_4
    try clear hcz21_5
    try clear hcz21_6
    try clear hcz21_7
    try clear hcz21_8
    try clear hcz21_9
    try clear hcz23_0
    try clear hcz23_1
    try clear hcz23_2
    try clear hcz23_3
    try clear hcz23_4
    try clear hcz23_5
    try clear hcz23_6
    try clear hcz23_7
    try clear hcz23_8
    try clear hcz23_9
    try clear hcz24_0
    try clear hcz24_1
    try clear hcz24_2
    try clear hcz24_3
    try clear hcz24_4
    try clear hcz24_5
    try clear hcz24_6
    try clear hcz24_7
    try clear hcz24_8
    try clear hcz24_9
    try clear hfz11_0
    try clear hfz11_1
    try clear hfz11_2
    try clear hfz11_3
    try clear hfz11_4
    try clear hfz11_5
    try clear hfz11_6
    try clear hfz11_7
    try clear hfz11_8
    try clear hfz11_9
    try clear hfz12_0
    try clear hfz12_1
    try clear hfz12_2
    try clear hfz12_3
    try clear hfz12_4
    try clear hfz12_5
    try clear hfz12_6
    try clear hfz12_7
    try clear hfz12_8
    try clear hfz12_9
    try clear hfz14_0
    try clear hfz14_1
    try clear hfz14_2
    try clear hfz14_3
    try clear hfz14_4
    try clear hfz14_5
    try clear hfz14_6
    try clear hfz14_7
    try clear hfz14_8
    try clear hfz14_9
    try clear hfz15_0
    try clear hfz15_1
    try clear hfz15_2
    try clear hfz15_3
    try clear hfz15_4
    try clear hfz15_5
    try clear hfz15_6
    try clear hfz15_7
    try clear hfz15_8
    try clear hfz15_9
    try clear hfz17_0
    try clear hfz17_1
    try clear hfz17_2
    try clear hfz17_3
    try clear hfz17_4
    try clear hfz17_5
    try clear hfz17_6
    try clear hfz17_7
    try clear hfz17_8
    try clear hfz17_9
    try clear hfz18_0
    try clear hfz18_1
    try clear hfz18_2
    try clear hfz18_3
    try clear hfz18_4
    try clear hfz18_5
    try clear hfz18_6
    try clear hfz18_7
    try clear hfz18_8
    try clear hfz18_9
    try clear hfz20_0
    try clear hfz20_1
    try clear hfz20_2
    try clear hfz20_3
    try clear hfz20_4
    try clear hfz20_5
    try clear hfz20_6
    try clear hfz20_7
    try clear hfz20_8
    try clear hfz20_9
    try clear hfz21_0
    try clear hfz21_1
    try clear hfz21_2
    try clear hfz21_3
    try clear hfz21_4
    try clear hfz21_5
    try clear hfz21_6
    try clear hfz21_7
    try clear hfz21_8
    try clear hfz21_9
    try clear hfz23_0
    try clear hfz23_1
    try clear hfz23_2
    try clear hfz23_3
    try clear hfz23_4
    try clear hfz23_5
    try clear hfz23_6
    try clear hfz23_7
    try clear hfz23_8
    try clear hfz23_9
    try clear hfz24_0
    try clear hfz24_1
    try clear hfz24_2
    try clear hfz24_3
    try clear hfz24_4
    try clear hfz24_5
    try clear hfz24_6
    try clear hfz24_7
    try clear hfz24_8
    try clear hfz24_9
    obtain ⟨kq, x5_2, rfl, HA, HJ2, BK226, BK227, HB⟩ := hcut
    cases kq with
    | zero => exact absurd HA.out (by simp [stratumref07_Same.j0])
    | succ kj2 =>
      have H := HA.out
      clear HA
      simp only [stratumref07_Same.j0] at H
      by_cases c25 : x5_2 = true
      · subst c25
        have H1 : ((stratumref07_SameInts.f kj2 l0_3 l1_3).bind fun t228 => (if t228 = true then ((stratumref07_SameFacts.f kj2 l0_4 l1_4).bind fun t229 => (if t229 = true then ((stratumref07_SameMap.f kj2 a0_5 l0_6 a1_5 l1_6).bind fun t230 => (if t230 = true then ((stratumref07_SameEntries.f l0_9 l1_9).bind fun t231 => (some t231)) else (some false))) else (some false))) else (some false))) = some r := by rw [if_pos rfl] at H; exact H
        clear H
        have H := H1
        clear H1
        replace H := Option.bind_eq_some_iff.mp H
        obtain ⟨t228, A260, H⟩ := H
        replace H : (if t228 = true then ((stratumref07_SameFacts.f kj2 l0_4 l1_4).bind fun t229 => (if t229 = true then ((stratumref07_SameMap.f kj2 a0_5 l0_6 a1_5 l1_6).bind fun t230 => (if t230 = true then ((stratumref07_SameEntries.f l0_9 l1_9).bind fun t231 => (some t231)) else (some false))) else (some false))) else (some false)) = some r := H
        have A26 := iC.mk A260
        clear A260
        by_cases c27 : t228 = true
        · subst c27
          have H1 : ((stratumref07_SameFacts.f kj2 l0_4 l1_4).bind fun t229 => (if t229 = true then ((stratumref07_SameMap.f kj2 a0_5 l0_6 a1_5 l1_6).bind fun t230 => (if t230 = true then ((stratumref07_SameEntries.f l0_9 l1_9).bind fun t231 => (some t231)) else (some false))) else (some false))) = some r := by rw [if_pos rfl] at H; exact H
          clear H
          have H := H1
          clear H1
          replace H := Option.bind_eq_some_iff.mp H
          obtain ⟨t229, A280, H⟩ := H
          replace H : (if t229 = true then ((stratumref07_SameMap.f kj2 a0_5 l0_6 a1_5 l1_6).bind fun t230 => (if t230 = true then ((stratumref07_SameEntries.f l0_9 l1_9).bind fun t231 => (some t231)) else (some false))) else (some false)) = some r := H
          have A28 := iC.mk A280
          clear A280
          by_cases c29 : t229 = true
          · subst c29
            have H1 : ((stratumref07_SameMap.f kj2 a0_5 l0_6 a1_5 l1_6).bind fun t230 => (if t230 = true then ((stratumref07_SameEntries.f l0_9 l1_9).bind fun t231 => (some t231)) else (some false))) = some r := by rw [if_pos rfl] at H; exact H
            clear H
            have H := H1
            clear H1
            replace H := Option.bind_eq_some_iff.mp H
            obtain ⟨t230, A300, H⟩ := H
            replace H : (if t230 = true then ((stratumref07_SameEntries.f l0_9 l1_9).bind fun t231 => (some t231)) else (some false)) = some r := H
            have A30 := iC.mk A300
            clear A300
            by_cases c31 : t230 = true
            · subst c31
              have H1 : ((stratumref07_SameEntries.f l0_9 l1_9).bind fun t231 => (some t231)) = some r := by rw [if_pos rfl] at H; exact H
              clear H
              have H := H1
              clear H1
              replace H := Option.bind_eq_some_iff.mp H
              obtain ⟨t231, A320, H⟩ := H
              replace H : (some t231) = some r := H
              have A32 := iC.mk A320
              clear A320
              obtain rfl := Option.some.inj H
              have hnb33 := NB226_227.out
              have hnc33 := NB227_226.out
              have hcz34_0 : wc.cell? ⟨gb226, 0, none⟩ = some (.int .u8 a0_0) := (iE BK226.out 0).trans rfl
              have hcz34_1 : wc.cell? ⟨gb226, 1, none⟩ = some (.int .u32 a0_1) := (iE BK226.out 1).trans rfl
              have hcz34_2 : wc.cell? ⟨gb226, 2, none⟩ = some (.int .u32 a0_2) := (iE BK226.out 2).trans rfl
              have hcz34_3 : wc.cell? ⟨gb226, 3, none⟩ = some (.slice A0_3 l0_3.length c0_3) := (iE BK226.out 3).trans rfl
              have hcz34_4 : wc.cell? ⟨gb226, 4, none⟩ = some (.slice A0_4 l0_4.length c0_4) := (iE BK226.out 4).trans rfl
              have hcz34_5 : wc.cell? ⟨gb226, 5, none⟩ = some (.int .u32 a0_5) := (iE BK226.out 5).trans rfl
              have hcz34_6 : wc.cell? ⟨gb226, 6, none⟩ = some (.slice A0_6 l0_6.length c0_6) := (iE BK226.out 6).trans rfl
              have hcz34_7 : wc.cell? ⟨gb226, 7, none⟩ = some (.int .i64 a0_7) := (iE BK226.out 7).trans rfl
              have hcz34_8 : wc.cell? ⟨gb226, 8, none⟩ = some (.int .i64 a0_8) := (iE BK226.out 8).trans rfl
              have hcz34_9 : wc.cell? ⟨gb226, 9, none⟩ = some (.slice A0_9 l0_9.length c0_9) := (iE BK226.out 9).trans rfl
              have hfz34_0 := iD BK226.out 0
              have hfz34_1 := iD BK226.out 1
              have hfz34_2 := iD BK226.out 2
              have hfz34_3 := iD BK226.out 3
              have hfz34_4 := iD BK226.out 4
              have hfz34_5 := iD BK226.out 5
              have hfz34_6 := iD BK226.out 6
              have hfz34_7 := iD BK226.out 7
              have hfz34_8 := iD BK226.out 8
              have hfz34_9 := iD BK226.out 9
              have hcz35_0 : wc.cell? ⟨gb227, 0, none⟩ = some (.int .u8 a1_0) := (iE BK227.out 0).trans rfl
              have hcz35_1 : wc.cell? ⟨gb227, 1, none⟩ = some (.int .u32 a1_1) := (iE BK227.out 1).trans rfl
              have hcz35_2 : wc.cell? ⟨gb227, 2, none⟩ = some (.int .u32 a1_2) := (iE BK227.out 2).trans rfl
              have hcz35_3 : wc.cell? ⟨gb227, 3, none⟩ = some (.slice A1_3 l1_3.length c1_3) := (iE BK227.out 3).trans rfl
              have hcz35_4 : wc.cell? ⟨gb227, 4, none⟩ = some (.slice A1_4 l1_4.length c1_4) := (iE BK227.out 4).trans rfl
              have hcz35_5 : wc.cell? ⟨gb227, 5, none⟩ = some (.int .u32 a1_5) := (iE BK227.out 5).trans rfl
              have hcz35_6 : wc.cell? ⟨gb227, 6, none⟩ = some (.slice A1_6 l1_6.length c1_6) := (iE BK227.out 6).trans rfl
              have hcz35_7 : wc.cell? ⟨gb227, 7, none⟩ = some (.int .i64 a1_7) := (iE BK227.out 7).trans rfl
              have hcz35_8 : wc.cell? ⟨gb227, 8, none⟩ = some (.int .i64 a1_8) := (iE BK227.out 8).trans rfl
              have hcz35_9 : wc.cell? ⟨gb227, 9, none⟩ = some (.slice A1_9 l1_9.length c1_9) := (iE BK227.out 9).trans rfl
              have hfz35_0 := iD BK227.out 0
              have hfz35_1 := iD BK227.out 1
              have hfz35_2 := iD BK227.out 2
              have hfz35_3 := iD BK227.out 3
              have hfz35_4 := iD BK227.out 4
              have hfz35_5 := iD BK227.out 5
              have hfz35_6 := iD BK227.out 6
              have hfz35_7 := iD BK227.out 7
              have hfz35_8 := iD BK227.out 8
              have hfz35_9 := iD BK227.out 9
              go_wp2_with (first | (go_at_call 35; (with_reducible refine (stratumref07_SameInts.calls kj2 _ _ l0_3 _ _ l1_3 true _ ?side1 ?side2 ?side3 ?side4 A26.out).mono ?_); (case side1 => repeat (first | exact (Kd.C_below HR0_3.out HB.out) | (with_reducible refine Kd.C_alloc ?_ _) | (with_reducible refine Kd.C_drewN ?_ _) | (with_reducible refine Kd.C_drew ?_))); (case side2 => exact HC0_3.out); (case side3 => repeat (first | exact (Kd.C_below HR1_3.out HB.out) | (with_reducible refine Kd.C_alloc ?_ _) | (with_reducible refine Kd.C_drewN ?_ _) | (with_reducible refine Kd.C_drew ?_))); (case side4 => exact HC1_3.out); rintro e w' ⟨rfl, ⟨nd, rfl⟩⟩) | (go_at_call 76; (with_reducible refine (stratumref07_SameFacts.calls kj2 _ _ l0_4 _ _ l1_4 true _ ?side1 ?side2 ?side3 ?side4 A28.out).mono ?_); (case side1 => repeat (first | exact (Kd.C_below HR0_4.out (by repeat (first | (with_reducible first | exact HB.out | apply iF | apply iG | apply iH | refine iJ ?_ GE226.out | refine iJ ?_ GE227.out) | exact HB.out))) | (with_reducible refine Kd.C_alloc ?_ _) | (with_reducible refine Kd.C_drewN ?_ _) | (with_reducible refine Kd.C_drew ?_))); (case side2 => exact HC0_4.out); (case side3 => repeat (first | exact (Kd.C_below HR1_4.out (by repeat (first | (with_reducible first | exact HB.out | apply iF | apply iG | apply iH | refine iJ ?_ GE226.out | refine iJ ?_ GE227.out) | exact HB.out))) | (with_reducible refine Kd.C_alloc ?_ _) | (with_reducible refine Kd.C_drewN ?_ _) | (with_reducible refine Kd.C_drew ?_))); (case side4 => exact HC1_4.out); rintro e w36 ⟨rfl, hb⟩; have n0_ := iC.mk (jF (g := gb226) (o := .cells #[.int .u8 a0_0, .int .u32 a0_1, .int .u32 a0_2, .slice A0_3 l0_3.length c0_3, .slice A0_4 l0_4.length c0_4, .int .u32 a0_5, .slice A0_6 l0_6.length c0_6, .int .i64 a0_7, .int .i64 a0_8, .slice A0_9 l0_9.length c0_9] 30 (0, 0)) (bk_ BK226.out) hb); have n1_ := iC.mk (jF (g := gb227) (o := .cells #[.int .u8 a1_0, .int .u32 a1_1, .int .u32 a1_2, .slice A1_3 l1_3.length c1_3, .slice A1_4 l1_4.length c1_4, .int .u32 a1_5, .slice A1_6 l1_6.length c1_6, .int .i64 a1_7, .int .i64 a1_8, .slice A1_9 l1_9.length c1_9] 30 (0, 0)) (bk_ BK227.out) hb); have n2_ := iC.mk (iI (by repeat (first | (with_reducible first | exact HB.out | apply iF | apply iG | apply iH | refine iJ ?_ GE226.out | refine iJ ?_ GE227.out) | exact HB.out)) hb); clear BK226; clear BK227; clear HB; have BK226 := n0_; have BK227 := n1_; have HB := n2_; clear n0_ n1_ n2_; (try clear hb); (try clear hb2); (try clear hk); (try clear hi); have hcz37_0 : w36.cell? ⟨gb226, 0, none⟩ = some (.int .u8 a0_0) := (iE BK226.out 0).trans rfl; have hcz37_1 : w36.cell? ⟨gb226, 1, none⟩ = some (.int .u32 a0_1) := (iE BK226.out 1).trans rfl; have hcz37_2 : w36.cell? ⟨gb226, 2, none⟩ = some (.int .u32 a0_2) := (iE BK226.out 2).trans rfl; have hcz37_3 : w36.cell? ⟨gb226, 3, none⟩ = some (.slice A0_3 l0_3.length c0_3) := (iE BK226.out 3).trans rfl; have hcz37_4 : w36.cell? ⟨gb226, 4, none⟩ = some (.slice A0_4 l0_4.length c0_4) := (iE BK226.out 4).trans rfl; have hcz37_5 : w36.cell? ⟨gb226, 5, none⟩ = some (.int .u32 a0_5) := (iE BK226.out 5).trans rfl; have hcz37_6 : w36.cell? ⟨gb226, 6, none⟩ = some (.slice A0_6 l0_6.length c0_6) := (iE BK226.out 6).trans rfl; have hcz37_7 : w36.cell? ⟨gb226, 7, none⟩ = some (.int .i64 a0_7) := (iE BK226.out 7).trans rfl; have hcz37_8 : w36.cell? ⟨gb226, 8, none⟩ = some (.int .i64 a0_8) := (iE BK226.out 8).trans rfl; have hcz37_9 : w36.cell? ⟨gb226, 9, none⟩ = some (.slice A0_9 l0_9.length c0_9) := (iE BK226.out 9).trans rfl; have hfz37_0 := iD BK226.out 0; have hfz37_1 := iD BK226.out 1; have hfz37_2 := iD BK226.out 2; have hfz37_3 := iD BK226.out 3; have hfz37_4 := iD BK226.out 4; have hfz37_5 := iD BK226.out 5; have hfz37_6 := iD BK226.out 6; have hfz37_7 := iD BK226.out 7; have hfz37_8 := iD BK226.out 8; have hfz37_9 := iD BK226.out 9; have hcz38_0 : w36.cell? ⟨gb227, 0, none⟩ = some (.int .u8 a1_0) := (iE BK227.out 0).trans rfl; have hcz38_1 : w36.cell? ⟨gb227, 1, none⟩ = some (.int .u32 a1_1) := (iE BK227.out 1).trans rfl; have hcz38_2 : w36.cell? ⟨gb227, 2, none⟩ = some (.int .u32 a1_2) := (iE BK227.out 2).trans rfl; have hcz38_3 : w36.cell? ⟨gb227, 3, none⟩ = some (.slice A1_3 l1_3.length c1_3) := (iE BK227.out 3).trans rfl; have hcz38_4 : w36.cell? ⟨gb227, 4, none⟩ = some (.slice A1_4 l1_4.length c1_4) := (iE BK227.out 4).trans rfl; have hcz38_5 : w36.cell? ⟨gb227, 5, none⟩ = some (.int .u32 a1_5) := (iE BK227.out 5).trans rfl; have hcz38_6 : w36.cell? ⟨gb227, 6, none⟩ = some (.slice A1_6 l1_6.length c1_6) := (iE BK227.out 6).trans rfl; have hcz38_7 : w36.cell? ⟨gb227, 7, none⟩ = some (.int .i64 a1_7) := (iE BK227.out 7).trans rfl; have hcz38_8 : w36.cell? ⟨gb227, 8, none⟩ = some (.int .i64 a1_8) := (iE BK227.out 8).trans rfl; have hcz38_9 : w36.cell? ⟨gb227, 9, none⟩ = some (.slice A1_9 l1_9.length c1_9) := (iE BK227.out 9).trans rfl; have hfz38_0 := iD BK227.out 0; have hfz38_1 := iD BK227.out 1; have hfz38_2 := iD BK227.out 2; have hfz38_3 := iD BK227.out 3; have hfz38_4 := iD BK227.out 4; have hfz38_5 := iD BK227.out 5; have hfz38_6 := iD BK227.out 6; have hfz38_7 := iD BK227.out 7; have hfz38_8 := iD BK227.out 8; have hfz38_9 := iD BK227.out 9) | (go_at_call 77; (with_reducible refine (stratumref07_SameMap.calls kj2 a0_5 _ _ l0_6 a1_5 _ _ l1_6 true _ ?side1 ?side2 ?side3 ?side4 A30.out).mono ?_); (case side1 => repeat (first | exact (Kd.C_below HR0_6.out HB.out) | (with_reducible refine Kd.C_alloc ?_ _) | (with_reducible refine Kd.C_drewN ?_ _) | (with_reducible refine Kd.C_drew ?_))); (case side2 => exact HC0_6.out); (case side3 => repeat (first | exact (Kd.C_below HR1_6.out HB.out) | (with_reducible refine Kd.C_alloc ?_ _) | (with_reducible refine Kd.C_drewN ?_ _) | (with_reducible refine Kd.C_drew ?_))); (case side4 => exact HC1_6.out); rintro e w39 ⟨rfl, hb⟩; have n0_ := iC.mk (jF (g := gb226) (o := .cells #[.int .u8 a0_0, .int .u32 a0_1, .int .u32 a0_2, .slice A0_3 l0_3.length c0_3, .slice A0_4 l0_4.length c0_4, .int .u32 a0_5, .slice A0_6 l0_6.length c0_6, .int .i64 a0_7, .int .i64 a0_8, .slice A0_9 l0_9.length c0_9] 30 (0, 0)) (bk_ BK226.out) hb); have n1_ := iC.mk (jF (g := gb227) (o := .cells #[.int .u8 a1_0, .int .u32 a1_1, .int .u32 a1_2, .slice A1_3 l1_3.length c1_3, .slice A1_4 l1_4.length c1_4, .int .u32 a1_5, .slice A1_6 l1_6.length c1_6, .int .i64 a1_7, .int .i64 a1_8, .slice A1_9 l1_9.length c1_9] 30 (0, 0)) (bk_ BK227.out) hb); have n2_ := iC.mk (iI (by repeat (first | (with_reducible first | exact HB.out | apply iF | apply iG | apply iH | refine iJ ?_ GE226.out | refine iJ ?_ GE227.out) | exact HB.out)) hb); clear BK226; clear BK227; clear HB; have BK226 := n0_; have BK227 := n1_; have HB := n2_; clear n0_ n1_ n2_; (try clear hb); (try clear hb2); (try clear hk); (try clear hi); have hcz40_0 : w39.cell? ⟨gb226, 0, none⟩ = some (.int .u8 a0_0) := (iE BK226.out 0).trans rfl; have hcz40_1 : w39.cell? ⟨gb226, 1, none⟩ = some (.int .u32 a0_1) := (iE BK226.out 1).trans rfl; have hcz40_2 : w39.cell? ⟨gb226, 2, none⟩ = some (.int .u32 a0_2) := (iE BK226.out 2).trans rfl; have hcz40_3 : w39.cell? ⟨gb226, 3, none⟩ = some (.slice A0_3 l0_3.length c0_3) := (iE BK226.out 3).trans rfl; have hcz40_4 : w39.cell? ⟨gb226, 4, none⟩ = some (.slice A0_4 l0_4.length c0_4) := (iE BK226.out 4).trans rfl; have hcz40_5 : w39.cell? ⟨gb226, 5, none⟩ = some (.int .u32 a0_5) := (iE BK226.out 5).trans rfl; have hcz40_6 : w39.cell? ⟨gb226, 6, none⟩ = some (.slice A0_6 l0_6.length c0_6) := (iE BK226.out 6).trans rfl; have hcz40_7 : w39.cell? ⟨gb226, 7, none⟩ = some (.int .i64 a0_7) := (iE BK226.out 7).trans rfl; have hcz40_8 : w39.cell? ⟨gb226, 8, none⟩ = some (.int .i64 a0_8) := (iE BK226.out 8).trans rfl; have hcz40_9 : w39.cell? ⟨gb226, 9, none⟩ = some (.slice A0_9 l0_9.length c0_9) := (iE BK226.out 9).trans rfl; have hfz40_0 := iD BK226.out 0; have hfz40_1 := iD BK226.out 1; have hfz40_2 := iD BK226.out 2; have hfz40_3 := iD BK226.out 3; have hfz40_4 := iD BK226.out 4; have hfz40_5 := iD BK226.out 5; have hfz40_6 := iD BK226.out 6; have hfz40_7 := iD BK226.out 7; have hfz40_8 := iD BK226.out 8; have hfz40_9 := iD BK226.out 9; have hcz41_0 : w39.cell? ⟨gb227, 0, none⟩ = some (.int .u8 a1_0) := (iE BK227.out 0).trans rfl; have hcz41_1 : w39.cell? ⟨gb227, 1, none⟩ = some (.int .u32 a1_1) := (iE BK227.out 1).trans rfl; have hcz41_2 : w39.cell? ⟨gb227, 2, none⟩ = some (.int .u32 a1_2) := (iE BK227.out 2).trans rfl; have hcz41_3 : w39.cell? ⟨gb227, 3, none⟩ = some (.slice A1_3 l1_3.length c1_3) := (iE BK227.out 3).trans rfl; have hcz41_4 : w39.cell? ⟨gb227, 4, none⟩ = some (.slice A1_4 l1_4.length c1_4) := (iE BK227.out 4).trans rfl; have hcz41_5 : w39.cell? ⟨gb227, 5, none⟩ = some (.int .u32 a1_5) := (iE BK227.out 5).trans rfl; have hcz41_6 : w39.cell? ⟨gb227, 6, none⟩ = some (.slice A1_6 l1_6.length c1_6) := (iE BK227.out 6).trans rfl; have hcz41_7 : w39.cell? ⟨gb227, 7, none⟩ = some (.int .i64 a1_7) := (iE BK227.out 7).trans rfl; have hcz41_8 : w39.cell? ⟨gb227, 8, none⟩ = some (.int .i64 a1_8) := (iE BK227.out 8).trans rfl; have hcz41_9 : w39.cell? ⟨gb227, 9, none⟩ = some (.slice A1_9 l1_9.length c1_9) := (iE BK227.out 9).trans rfl; have hfz41_0 := iD BK227.out 0; have hfz41_1 := iD BK227.out 1; have hfz41_2 := iD BK227.out 2; have hfz41_3 := iD BK227.out 3; have hfz41_4 := iD BK227.out 4; have hfz41_5 := iD BK227.out 5; have hfz41_6 := iD BK227.out 6; have hfz41_7 := iD BK227.out 7; have hfz41_8 := iD BK227.out 8; have hfz41_9 := iD BK227.out 9) | (go_at_call 78; (with_reducible refine (stratumref07_SameEntries.calls _ _ l0_9 _ _ l1_9 t231 _ ?side1 ?side2 ?side3 ?side4 A32.out).mono ?_); (case side1 => repeat (first | exact (Kd.C_below HR0_9.out HB.out) | (with_reducible refine Kd.C_alloc ?_ _) | (with_reducible refine Kd.C_drewN ?_ _) | (with_reducible refine Kd.C_drew ?_))); (case side2 => exact HC0_9.out); (case side3 => repeat (first | exact (Kd.C_below HR1_9.out HB.out) | (with_reducible refine Kd.C_alloc ?_ _) | (with_reducible refine Kd.C_drewN ?_ _) | (with_reducible refine Kd.C_drew ?_))); (case side4 => exact HC1_9.out); rintro e w42 ⟨rfl, hb⟩; have n0_ := iC.mk (jF (g := gb226) (o := .cells #[.int .u8 a0_0, .int .u32 a0_1, .int .u32 a0_2, .slice A0_3 l0_3.length c0_3, .slice A0_4 l0_4.length c0_4, .int .u32 a0_5, .slice A0_6 l0_6.length c0_6, .int .i64 a0_7, .int .i64 a0_8, .slice A0_9 l0_9.length c0_9] 30 (0, 0)) (bk_ BK226.out) hb); have n1_ := iC.mk (jF (g := gb227) (o := .cells #[.int .u8 a1_0, .int .u32 a1_1, .int .u32 a1_2, .slice A1_3 l1_3.length c1_3, .slice A1_4 l1_4.length c1_4, .int .u32 a1_5, .slice A1_6 l1_6.length c1_6, .int .i64 a1_7, .int .i64 a1_8, .slice A1_9 l1_9.length c1_9] 30 (0, 0)) (bk_ BK227.out) hb); have n2_ := iC.mk (iI (by repeat (first | (with_reducible first | exact HB.out | apply iF | apply iG | apply iH | refine iJ ?_ GE226.out | refine iJ ?_ GE227.out) | exact HB.out)) hb); clear BK226; clear BK227; clear HB; have BK226 := n0_; have BK227 := n1_; have HB := n2_; clear n0_ n1_ n2_; (try clear hb); (try clear hb2); (try clear hk); (try clear hi)))
              go_ret
              exact ⟨by first | rfl | (simp [iM, iO] <;> rfl) | (simp [*, iM, iO] <;> rfl), by repeat (first | (with_reducible first | exact HB.out | apply iF | apply iG | apply iH | refine iJ ?_ GE226.out | refine iJ ?_ GE227.out) | exact HB.out)⟩
            · replace c31 := Bool.eq_false_iff.mpr c31
              subst c31
              have H1 : (some false) = some r := by rw [if_neg (show ¬ (false = true) by decide)] at H; exact H
              clear H
              have H := H1
              clear H1
              obtain rfl := Option.some.inj H
              have hnb43 := NB226_227.out
              have hnc43 := NB227_226.out
              have hcz44_0 : wc.cell? ⟨gb226, 0, none⟩ = some (.int .u8 a0_0) := (iE BK226.out 0).trans rfl
              have hcz44_1 : wc.cell? ⟨gb226, 1, none⟩ = some (.int .u32 a0_1) := (iE BK226.out 1).trans rfl
              have hcz44_2 : wc.cell? ⟨gb226, 2, none⟩ = some (.int .u32 a0_2) := (iE BK226.out 2).trans rfl
              have hcz44_3 : wc.cell? ⟨gb226, 3, none⟩ = some (.slice A0_3 l0_3.length c0_3) := (iE BK226.out 3).trans rfl
              have hcz44_4 : wc.cell? ⟨gb226, 4, none⟩ = some (.slice A0_4 l0_4.length c0_4) := (iE BK226.out 4).trans rfl
              have hcz44_5 : wc.cell? ⟨gb226, 5, none⟩ = some (.int .u32 a0_5) := (iE BK226.out 5).trans rfl
              have hcz44_6 : wc.cell? ⟨gb226, 6, none⟩ = some (.slice A0_6 l0_6.length c0_6) := (iE BK226.out 6).trans rfl
              have hcz44_7 : wc.cell? ⟨gb226, 7, none⟩ = some (.int .i64 a0_7) := (iE BK226.out 7).trans rfl
              have hcz44_8 : wc.cell? ⟨gb226, 8, none⟩ = some (.int .i64 a0_8) := (iE BK226.out 8).trans rfl
              have hcz44_9 : wc.cell? ⟨gb226, 9, none⟩ = some (.slice A0_9 l0_9.length c0_9) := (iE BK226.out 9).trans rfl
              have hfz44_0 := iD BK226.out 0
              have hfz44_1 := iD BK226.out 1
              have hfz44_2 := iD BK226.out 2
              have hfz44_3 := iD BK226.out 3
              have hfz44_4 := iD BK226.out 4
              have hfz44_5 := iD BK226.out 5
              have hfz44_6 := iD BK226.out 6
              have hfz44_7 := iD BK226.out 7
              have hfz44_8 := iD BK226.out 8
              have hfz44_9 := iD BK226.out 9
              have hcz45_0 : wc.cell? ⟨gb227, 0, none⟩ = some (.int .u8 a1_0) := (iE BK227.out 0).trans rfl
              have hcz45_1 : wc.cell? ⟨gb227, 1, none⟩ = some (.int .u32 a1_1) := (iE BK227.out 1).trans rfl
              have hcz45_2 : wc.cell? ⟨gb227, 2, none⟩ = some (.int .u32 a1_2) := (iE BK227.out 2).trans rfl
              have hcz45_3 : wc.cell? ⟨gb227, 3, none⟩ = some (.slice A1_3 l1_3.length c1_3) := (iE BK227.out 3).trans rfl
              have hcz45_4 : wc.cell? ⟨gb227, 4, none⟩ = some (.slice A1_4 l1_4.length c1_4) := (iE BK227.out 4).trans rfl
              have hcz45_5 : wc.cell? ⟨gb227, 5, none⟩ = some (.int .u32 a1_5) := (iE BK227.out 5).trans rfl
              have hcz45_6 : wc.cell? ⟨gb227, 6, none⟩ = some (.slice A1_6 l1_6.length c1_6) := (iE BK227.out 6).trans rfl
              have hcz45_7 : wc.cell? ⟨gb227, 7, none⟩ = some (.int .i64 a1_7) := (iE BK227.out 7).trans rfl
              have hcz45_8 : wc.cell? ⟨gb227, 8, none⟩ = some (.int .i64 a1_8) := (iE BK227.out 8).trans rfl
              have hcz45_9 : wc.cell? ⟨gb227, 9, none⟩ = some (.slice A1_9 l1_9.length c1_9) := (iE BK227.out 9).trans rfl
              have hfz45_0 := iD BK227.out 0
              have hfz45_1 := iD BK227.out 1
              have hfz45_2 := iD BK227.out 2
              have hfz45_3 := iD BK227.out 3
              have hfz45_4 := iD BK227.out 4
              have hfz45_5 := iD BK227.out 5
              have hfz45_6 := iD BK227.out 6
              have hfz45_7 := iD BK227.out 7
              have hfz45_8 := iD BK227.out 8
              have hfz45_9 := iD BK227.out 9
              go_wp2_with (first | (go_at_call 35; (with_reducible refine (stratumref07_SameInts.calls kj2 _ _ l0_3 _ _ l1_3 true _ ?side1 ?side2 ?side3 ?side4 A26.out).mono ?_); (case side1 => repeat (first | exact (Kd.C_below HR0_3.out HB.out) | (with_reducible refine Kd.C_alloc ?_ _) | (with_reducible refine Kd.C_drewN ?_ _) | (with_reducible refine Kd.C_drew ?_))); (case side2 => exact HC0_3.out); (case side3 => repeat (first | exact (Kd.C_below HR1_3.out HB.out) | (with_reducible refine Kd.C_alloc ?_ _) | (with_reducible refine Kd.C_drewN ?_ _) | (with_reducible refine Kd.C_drew ?_))); (case side4 => exact HC1_3.out); rintro e w' ⟨rfl, ⟨nd, rfl⟩⟩) | (go_at_call 76; (with_reducible refine (stratumref07_SameFacts.calls kj2 _ _ l0_4 _ _ l1_4 true _ ?side1 ?side2 ?side3 ?side4 A28.out).mono ?_); (case side1 => repeat (first | exact (Kd.C_below HR0_4.out (by repeat (first | (with_reducible first | exact HB.out | apply iF | apply iG | apply iH | refine iJ ?_ GE226.out | refine iJ ?_ GE227.out) | exact HB.out))) | (with_reducible refine Kd.C_alloc ?_ _) | (with_reducible refine Kd.C_drewN ?_ _) | (with_reducible refine Kd.C_drew ?_))); (case side2 => exact HC0_4.out); (case side3 => repeat (first | exact (Kd.C_below HR1_4.out (by repeat (first | (with_reducible first | exact HB.out | apply iF | apply iG | apply iH | refine iJ ?_ GE226.out | refine iJ ?_ GE227.out) | exact HB.out))) | (with_reducible refine Kd.C_alloc ?_ _) | (with_reducible refine Kd.C_drewN ?_ _) | (with_reducible refine Kd.C_drew ?_))); (case side4 => exact HC1_4.out); rintro e w46 ⟨rfl, hb⟩; have n0_ := iC.mk (jF (g := gb226) (o := .cells #[.int .u8 a0_0, .int .u32 a0_1, .int .u32 a0_2, .slice A0_3 l0_3.length c0_3, .slice A0_4 l0_4.length c0_4, .int .u32 a0_5, .slice A0_6 l0_6.length c0_6, .int .i64 a0_7, .int .i64 a0_8, .slice A0_9 l0_9.length c0_9] 30 (0, 0)) (bk_ BK226.out) hb); have n1_ := iC.mk (jF (g := gb227) (o := .cells #[.int .u8 a1_0, .int .u32 a1_1, .int .u32 a1_2, .slice A1_3 l1_3.length c1_3, .slice A1_4 l1_4.length c1_4, .int .u32 a1_5, .slice A1_6 l1_6.length c1_6, .int .i64 a1_7, .int .i64 a1_8, .slice A1_9 l1_9.length c1_9] 30 (0, 0)) (bk_ BK227.out) hb); have n2_ := iC.mk (iI (by repeat (first | (with_reducible first | exact HB.out | apply iF | apply iG | apply iH | refine iJ ?_ GE226.out | refine iJ ?_ GE227.out) | exact HB.out)) hb); clear BK226; clear BK227; clear HB; have BK226 := n0_; have BK227 := n1_; have HB := n2_; clear n0_ n1_ n2_; (try clear hb); (try clear hb2); (try clear hk); (try clear hi); have hcz47_0 : w46.cell? ⟨gb226, 0, none⟩ = some (.int .u8 a0_0) := (iE BK226.out 0).trans rfl; have hcz47_1 : w46.cell? ⟨gb226, 1, none⟩ = some (.int .u32 a0_1) := (iE BK226.out 1).trans rfl; have hcz47_2 : w46.cell? ⟨gb226, 2, none⟩ = some (.int .u32 a0_2) := (iE BK226.out 2).trans rfl; have hcz47_3 : w46.cell? ⟨gb226, 3, none⟩ = some (.slice A0_3 l0_3.length c0_3) := (iE BK226.out 3).trans rfl; have hcz47_4 : w46.cell? ⟨gb226, 4, none⟩ = some (.slice A0_4 l0_4.length c0_4) := (iE BK226.out 4).trans rfl; have hcz47_5 : w46.cell? ⟨gb226, 5, none⟩ = some (.int .u32 a0_5) := (iE BK226.out 5).trans rfl; have hcz47_6 : w46.cell? ⟨gb226, 6, none⟩ = some (.slice A0_6 l0_6.length c0_6) := (iE BK226.out 6).trans rfl; have hcz47_7 : w46.cell? ⟨gb226, 7, none⟩ = some (.int .i64 a0_7) := (iE BK226.out 7).trans rfl; have hcz47_8 : w46.cell? ⟨gb226, 8, none⟩ = some (.int .i64 a0_8) := (iE BK226.out 8).trans rfl; have hcz47_9 : w46.cell? ⟨gb226, 9, none⟩ = some (.slice A0_9 l0_9.length c0_9) := (iE BK226.out 9).trans rfl; have hfz47_0 := iD BK226.out 0; have hfz47_1 := iD BK226.out 1; have hfz47_2 := iD BK226.out 2; have hfz47_3 := iD BK226.out 3; have hfz47_4 := iD BK226.out 4; have hfz47_5 := iD BK226.out 5; have hfz47_6 := iD BK226.out 6; have hfz47_7 := iD BK226.out 7; have hfz47_8 := iD BK226.out 8; have hfz47_9 := iD BK226.out 9; have hcz48_0 : w46.cell? ⟨gb227, 0, none⟩ = some (.int .u8 a1_0) := (iE BK227.out 0).trans rfl; have hcz48_1 : w46.cell? ⟨gb227, 1, none⟩ = some (.int .u32 a1_1) := (iE BK227.out 1).trans rfl; have hcz48_2 : w46.cell? ⟨gb227, 2, none⟩ = some (.int .u32 a1_2) := (iE BK227.out 2).trans rfl; have hcz48_3 : w46.cell? ⟨gb227, 3, none⟩ = some (.slice A1_3 l1_3.length c1_3) := (iE BK227.out 3).trans rfl; have hcz48_4 : w46.cell? ⟨gb227, 4, none⟩ = some (.slice A1_4 l1_4.length c1_4) := (iE BK227.out 4).trans rfl; have hcz48_5 : w46.cell? ⟨gb227, 5, none⟩ = some (.int .u32 a1_5) := (iE BK227.out 5).trans rfl; have hcz48_6 : w46.cell? ⟨gb227, 6, none⟩ = some (.slice A1_6 l1_6.length c1_6) := (iE BK227.out 6).trans rfl; have hcz48_7 : w46.cell? ⟨gb227, 7, none⟩ = some (.int .i64 a1_7) := (iE BK227.out 7).trans rfl; have hcz48_8 : w46.cell? ⟨gb227, 8, none⟩ = some (.int .i64 a1_8) := (iE BK227.out 8).trans rfl; have hcz48_9 : w46.cell? ⟨gb227, 9, none⟩ = some (.slice A1_9 l1_9.length c1_9) := (iE BK227.out 9).trans rfl; have hfz48_0 := iD BK227.out 0; have hfz48_1 := iD BK227.out 1; have hfz48_2 := iD BK227.out 2; have hfz48_3 := iD BK227.out 3; have hfz48_4 := iD BK227.out 4; have hfz48_5 := iD BK227.out 5; have hfz48_6 := iD BK227.out 6; have hfz48_7 := iD BK227.out 7; have hfz48_8 := iD BK227.out 8; have hfz48_9 := iD BK227.out 9) | (go_at_call 77; (with_reducible refine (stratumref07_SameMap.calls kj2 a0_5 _ _ l0_6 a1_5 _ _ l1_6 false _ ?side1 ?side2 ?side3 ?side4 A30.out).mono ?_); (case side1 => repeat (first | exact (Kd.C_below HR0_6.out HB.out) | (with_reducible refine Kd.C_alloc ?_ _) | (with_reducible refine Kd.C_drewN ?_ _) | (with_reducible refine Kd.C_drew ?_))); (case side2 => exact HC0_6.out); (case side3 => repeat (first | exact (Kd.C_below HR1_6.out HB.out) | (with_reducible refine Kd.C_alloc ?_ _) | (with_reducible refine Kd.C_drewN ?_ _) | (with_reducible refine Kd.C_drew ?_))); (case side4 => exact HC1_6.out); rintro e w49 ⟨rfl, hb⟩; have n0_ := iC.mk (jF (g := gb226) (o := .cells #[.int .u8 a0_0, .int .u32 a0_1, .int .u32 a0_2, .slice A0_3 l0_3.length c0_3, .slice A0_4 l0_4.length c0_4, .int .u32 a0_5, .slice A0_6 l0_6.length c0_6, .int .i64 a0_7, .int .i64 a0_8, .slice A0_9 l0_9.length c0_9] 30 (0, 0)) (bk_ BK226.out) hb); have n1_ := iC.mk (jF (g := gb227) (o := .cells #[.int .u8 a1_0, .int .u32 a1_1, .int .u32 a1_2, .slice A1_3 l1_3.length c1_3, .slice A1_4 l1_4.length c1_4, .int .u32 a1_5, .slice A1_6 l1_6.length c1_6, .int .i64 a1_7, .int .i64 a1_8, .slice A1_9 l1_9.length c1_9] 30 (0, 0)) (bk_ BK227.out) hb); have n2_ := iC.mk (iI (by repeat (first | (with_reducible first | exact HB.out | apply iF | apply iG | apply iH | refine iJ ?_ GE226.out | refine iJ ?_ GE227.out) | exact HB.out)) hb); clear BK226; clear BK227; clear HB; have BK226 := n0_; have BK227 := n1_; have HB := n2_; clear n0_ n1_ n2_; (try clear hb); (try clear hb2); (try clear hk); (try clear hi)))
              go_ret
              exact ⟨by first | rfl | (simp [iM, iO] <;> rfl) | (simp [*, iM, iO] <;> rfl), by repeat (first | (with_reducible first | exact HB.out | apply iF | apply iG | apply iH | refine iJ ?_ GE226.out | refine iJ ?_ GE227.out) | exact HB.out)⟩
          · replace c29 := Bool.eq_false_iff.mpr c29
            subst c29
            have H1 : (some false) = some r := by rw [if_neg (show ¬ (false = true) by decide)] at H; exact H
            clear H
            have H := H1
            clear H1
            obtain rfl := Option.some.inj H
            have hnb50 := NB226_227.out
            have hnc50 := NB227_226.out
            have hcz51_0 : wc.cell? ⟨gb226, 0, none⟩ = some (.int .u8 a0_0) := (iE BK226.out 0).trans rfl
            have hcz51_1 : wc.cell? ⟨gb226, 1, none⟩ = some (.int .u32 a0_1) := (iE BK226.out 1).trans rfl
            have hcz51_2 : wc.cell? ⟨gb226, 2, none⟩ = some (.int .u32 a0_2) := (iE BK226.out 2).trans rfl
            have hcz51_3 : wc.cell? ⟨gb226, 3, none⟩ = some (.slice A0_3 l0_3.length c0_3) := (iE BK226.out 3).trans rfl
            have hcz51_4 : wc.cell? ⟨gb226, 4, none⟩ = some (.slice A0_4 l0_4.length c0_4) := (iE BK226.out 4).trans rfl
            have hcz51_5 : wc.cell? ⟨gb226, 5, none⟩ = some (.int .u32 a0_5) := (iE BK226.out 5).trans rfl
            have hcz51_6 : wc.cell? ⟨gb226, 6, none⟩ = some (.slice A0_6 l0_6.length c0_6) := (iE BK226.out 6).trans rfl
            have hcz51_7 : wc.cell? ⟨gb226, 7, none⟩ = some (.int .i64 a0_7) := (iE BK226.out 7).trans rfl
            have hcz51_8 : wc.cell? ⟨gb226, 8, none⟩ = some (.int .i64 a0_8) := (iE BK226.out 8).trans rfl
            have hcz51_9 : wc.cell? ⟨gb226, 9, none⟩ = some (.slice A0_9 l0_9.length c0_9) := (iE BK226.out 9).trans rfl
            have hfz51_0 := iD BK226.out 0
            have hfz51_1 := iD BK226.out 1
            have hfz51_2 := iD BK226.out 2
            have hfz51_3 := iD BK226.out 3
            have hfz51_4 := iD BK226.out 4
            have hfz51_5 := iD BK226.out 5
            have hfz51_6 := iD BK226.out 6
            have hfz51_7 := iD BK226.out 7
            have hfz51_8 := iD BK226.out 8
            have hfz51_9 := iD BK226.out 9
            have hcz52_0 : wc.cell? ⟨gb227, 0, none⟩ = some (.int .u8 a1_0) := (iE BK227.out 0).trans rfl
            have hcz52_1 : wc.cell? ⟨gb227, 1, none⟩ = some (.int .u32 a1_1) := (iE BK227.out 1).trans rfl
            have hcz52_2 : wc.cell? ⟨gb227, 2, none⟩ = some (.int .u32 a1_2) := (iE BK227.out 2).trans rfl
            have hcz52_3 : wc.cell? ⟨gb227, 3, none⟩ = some (.slice A1_3 l1_3.length c1_3) := (iE BK227.out 3).trans rfl
            have hcz52_4 : wc.cell? ⟨gb227, 4, none⟩ = some (.slice A1_4 l1_4.length c1_4) := (iE BK227.out 4).trans rfl
            have hcz52_5 : wc.cell? ⟨gb227, 5, none⟩ = some (.int .u32 a1_5) := (iE BK227.out 5).trans rfl
            have hcz52_6 : wc.cell? ⟨gb227, 6, none⟩ = some (.slice A1_6 l1_6.length c1_6) := (iE BK227.out 6).trans rfl
            have hcz52_7 : wc.cell? ⟨gb227, 7, none⟩ = some (.int .i64 a1_7) := (iE BK227.out 7).trans rfl
            have hcz52_8 : wc.cell? ⟨gb227, 8, none⟩ = some (.int .i64 a1_8) := (iE BK227.out 8).trans rfl
            have hcz52_9 : wc.cell? ⟨gb227, 9, none⟩ = some (.slice A1_9 l1_9.length c1_9) := (iE BK227.out 9).trans rfl
            have hfz52_0 := iD BK227.out 0
            have hfz52_1 := iD BK227.out 1
            have hfz52_2 := iD BK227.out 2
            have hfz52_3 := iD BK227.out 3
            have hfz52_4 := iD BK227.out 4
            have hfz52_5 := iD BK227.out 5
            have hfz52_6 := iD BK227.out 6
            have hfz52_7 := iD BK227.out 7
            have hfz52_8 := iD BK227.out 8
            have hfz52_9 := iD BK227.out 9
            go_wp2_with (first | (go_at_call 35; (with_reducible refine (stratumref07_SameInts.calls kj2 _ _ l0_3 _ _ l1_3 true _ ?side1 ?side2 ?side3 ?side4 A26.out).mono ?_); (case side1 => repeat (first | exact (Kd.C_below HR0_3.out HB.out) | (with_reducible refine Kd.C_alloc ?_ _) | (with_reducible refine Kd.C_drewN ?_ _) | (with_reducible refine Kd.C_drew ?_))); (case side2 => exact HC0_3.out); (case side3 => repeat (first | exact (Kd.C_below HR1_3.out HB.out) | (with_reducible refine Kd.C_alloc ?_ _) | (with_reducible refine Kd.C_drewN ?_ _) | (with_reducible refine Kd.C_drew ?_))); (case side4 => exact HC1_3.out); rintro e w' ⟨rfl, ⟨nd, rfl⟩⟩) | (go_at_call 76; (with_reducible refine (stratumref07_SameFacts.calls kj2 _ _ l0_4 _ _ l1_4 false _ ?side1 ?side2 ?side3 ?side4 A28.out).mono ?_); (case side1 => repeat (first | exact (Kd.C_below HR0_4.out (by repeat (first | (with_reducible first | exact HB.out | apply iF | apply iG | apply iH | refine iJ ?_ GE226.out | refine iJ ?_ GE227.out) | exact HB.out))) | (with_reducible refine Kd.C_alloc ?_ _) | (with_reducible refine Kd.C_drewN ?_ _) | (with_reducible refine Kd.C_drew ?_))); (case side2 => exact HC0_4.out); (case side3 => repeat (first | exact (Kd.C_below HR1_4.out (by repeat (first | (with_reducible first | exact HB.out | apply iF | apply iG | apply iH | refine iJ ?_ GE226.out | refine iJ ?_ GE227.out) | exact HB.out))) | (with_reducible refine Kd.C_alloc ?_ _) | (with_reducible refine Kd.C_drewN ?_ _) | (with_reducible refine Kd.C_drew ?_))); (case side4 => exact HC1_4.out); rintro e w53 ⟨rfl, hb⟩; have n0_ := iC.mk (jF (g := gb226) (o := .cells #[.int .u8 a0_0, .int .u32 a0_1, .int .u32 a0_2, .slice A0_3 l0_3.length c0_3, .slice A0_4 l0_4.length c0_4, .int .u32 a0_5, .slice A0_6 l0_6.length c0_6, .int .i64 a0_7, .int .i64 a0_8, .slice A0_9 l0_9.length c0_9] 30 (0, 0)) (bk_ BK226.out) hb); have n1_ := iC.mk (jF (g := gb227) (o := .cells #[.int .u8 a1_0, .int .u32 a1_1, .int .u32 a1_2, .slice A1_3 l1_3.length c1_3, .slice A1_4 l1_4.length c1_4, .int .u32 a1_5, .slice A1_6 l1_6.length c1_6, .int .i64 a1_7, .int .i64 a1_8, .slice A1_9 l1_9.length c1_9] 30 (0, 0)) (bk_ BK227.out) hb); have n2_ := iC.mk (iI (by repeat (first | (with_reducible first | exact HB.out | apply iF | apply iG | apply iH | refine iJ ?_ GE226.out | refine iJ ?_ GE227.out) | exact HB.out)) hb); clear BK226; clear BK227; clear HB; have BK226 := n0_; have BK227 := n1_; have HB := n2_; clear n0_ n1_ n2_; (try clear hb); (try clear hb2); (try clear hk); (try clear hi)))
            go_ret
            exact ⟨by first | rfl | (simp [iM, iO] <;> rfl) | (simp [*, iM, iO] <;> rfl), by repeat (first | (with_reducible first | exact HB.out | apply iF | apply iG | apply iH | refine iJ ?_ GE226.out | refine iJ ?_ GE227.out) | exact HB.out)⟩
        · replace c27 := Bool.eq_false_iff.mpr c27
          subst c27
          have H1 : (some false) = some r := by rw [if_neg (show ¬ (false = true) by decide)] at H; exact H
          clear H
          have H := H1
          clear H1
          obtain rfl := Option.some.inj H
          have hnb54 := NB226_227.out
          have hnc54 := NB227_226.out
          have hcz55_0 : wc.cell? ⟨gb226, 0, none⟩ = some (.int .u8 a0_0) := (iE BK226.out 0).trans rfl
          have hcz55_1 : wc.cell? ⟨gb226, 1, none⟩ = some (.int .u32 a0_1) := (iE BK226.out 1).trans rfl
          have hcz55_2 : wc.cell? ⟨gb226, 2, none⟩ = some (.int .u32 a0_2) := (iE BK226.out 2).trans rfl
          have hcz55_3 : wc.cell? ⟨gb226, 3, none⟩ = some (.slice A0_3 l0_3.length c0_3) := (iE BK226.out 3).trans rfl
          have hcz55_4 : wc.cell? ⟨gb226, 4, none⟩ = some (.slice A0_4 l0_4.length c0_4) := (iE BK226.out 4).trans rfl
          have hcz55_5 : wc.cell? ⟨gb226, 5, none⟩ = some (.int .u32 a0_5) := (iE BK226.out 5).trans rfl
          have hcz55_6 : wc.cell? ⟨gb226, 6, none⟩ = some (.slice A0_6 l0_6.length c0_6) := (iE BK226.out 6).trans rfl
          have hcz55_7 : wc.cell? ⟨gb226, 7, none⟩ = some (.int .i64 a0_7) := (iE BK226.out 7).trans rfl
          have hcz55_8 : wc.cell? ⟨gb226, 8, none⟩ = some (.int .i64 a0_8) := (iE BK226.out 8).trans rfl
          have hcz55_9 : wc.cell? ⟨gb226, 9, none⟩ = some (.slice A0_9 l0_9.length c0_9) := (iE BK226.out 9).trans rfl
          have hfz55_0 := iD BK226.out 0
          have hfz55_1 := iD BK226.out 1
          have hfz55_2 := iD BK226.out 2
          have hfz55_3 := iD BK226.out 3
          have hfz55_4 := iD BK226.out 4
          have hfz55_5 := iD BK226.out 5
          have hfz55_6 := iD BK226.out 6
          have hfz55_7 := iD BK226.out 7
          have hfz55_8 := iD BK226.out 8
          have hfz55_9 := iD BK226.out 9
          have hcz56_0 : wc.cell? ⟨gb227, 0, none⟩ = some (.int .u8 a1_0) := (iE BK227.out 0).trans rfl
          have hcz56_1 : wc.cell? ⟨gb227, 1, none⟩ = some (.int .u32 a1_1) := (iE BK227.out 1).trans rfl
          have hcz56_2 : wc.cell? ⟨gb227, 2, none⟩ = some (.int .u32 a1_2) := (iE BK227.out 2).trans rfl
          have hcz56_3 : wc.cell? ⟨gb227, 3, none⟩ = some (.slice A1_3 l1_3.length c1_3) := (iE BK227.out 3).trans rfl
          have hcz56_4 : wc.cell? ⟨gb227, 4, none⟩ = some (.slice A1_4 l1_4.length c1_4) := (iE BK227.out 4).trans rfl
          have hcz56_5 : wc.cell? ⟨gb227, 5, none⟩ = some (.int .u32 a1_5) := (iE BK227.out 5).trans rfl
          have hcz56_6 : wc.cell? ⟨gb227, 6, none⟩ = some (.slice A1_6 l1_6.length c1_6) := (iE BK227.out 6).trans rfl
          have hcz56_7 : wc.cell? ⟨gb227, 7, none⟩ = some (.int .i64 a1_7) := (iE BK227.out 7).trans rfl
          have hcz56_8 : wc.cell? ⟨gb227, 8, none⟩ = some (.int .i64 a1_8) := (iE BK227.out 8).trans rfl
          have hcz56_9 : wc.cell? ⟨gb227, 9, none⟩ = some (.slice A1_9 l1_9.length c1_9) := (iE BK227.out 9).trans rfl
          have hfz56_0 := iD BK227.out 0
          have hfz56_1 := iD BK227.out 1
          have hfz56_2 := iD BK227.out 2
          have hfz56_3 := iD BK227.out 3
          have hfz56_4 := iD BK227.out 4
          have hfz56_5 := iD BK227.out 5
          have hfz56_6 := iD BK227.out 6
          have hfz56_7 := iD BK227.out 7
          have hfz56_8 := iD BK227.out 8
          have hfz56_9 := iD BK227.out 9
          go_wp2_with (first | (go_at_call 35; (with_reducible refine (stratumref07_SameInts.calls kj2 _ _ l0_3 _ _ l1_3 false _ ?side1 ?side2 ?side3 ?side4 A26.out).mono ?_); (case side1 => repeat (first | exact (Kd.C_below HR0_3.out HB.out) | (with_reducible refine Kd.C_alloc ?_ _) | (with_reducible refine Kd.C_drewN ?_ _) | (with_reducible refine Kd.C_drew ?_))); (case side2 => exact HC0_3.out); (case side3 => repeat (first | exact (Kd.C_below HR1_3.out HB.out) | (with_reducible refine Kd.C_alloc ?_ _) | (with_reducible refine Kd.C_drewN ?_ _) | (with_reducible refine Kd.C_drew ?_))); (case side4 => exact HC1_3.out); rintro e w' ⟨rfl, ⟨nd, rfl⟩⟩))
          go_ret
          exact ⟨by first | rfl | (simp [iM, iO] <;> rfl) | (simp [*, iM, iO] <;> rfl), by repeat (first | (with_reducible first | exact HB.out | apply iF | apply iG | apply iH | refine iJ ?_ GE226.out | refine iJ ?_ GE227.out) | exact HB.out)⟩
      · replace c25 := Bool.eq_false_iff.mpr c25
        subst c25
        have H1 : (some false) = some r := by rw [if_neg (show ¬ (false = true) by decide)] at H; exact H
        clear H
        have H := H1
        clear H1
        obtain rfl := Option.some.inj H
        go_wp2
        go_ret
        exact ⟨by first | rfl | (simp [iM, iO] <;> rfl) | (simp [*, iM, iO] <;> rfl), by repeat (first | (with_reducible first | exact HB.out | apply iF | apply iG | apply iH | refine iJ ?_ GE226.out | refine iJ ?_ GE227.out) | exact HB.out)⟩
end Go.Proofs.YtgfkgppomaapiaaDoor.K
end

section
namespace Go.Proofs.YtgfkgppomaapiaaDoor.K
open RowKit YtgfkgppomaapiaaDoorW.PrintWords YtgfkgppomaapiaaDoorW.PrintLast YtgfkgppomaapiaaDoorW.PrintMore My
theorem UM (l m : List Int) (h : l.length = m.length) (k : Nat) (hk : ∀ i : Nat, i < k → l.getD i 0 = m.getD i 0) (hl : l.length ≤ k) : l = m := by
  apply List.ext_getElem h
  intro i h1 h2
  have := hk i (by omega)
  rw [List.getD_eq_getElem?_getD, List.getD_eq_getElem?_getD, List.getElem?_eq_getElem h1, List.getElem?_eq_getElem h2] at this
  exact this
theorem zI (l m : List Int) (h : l.length = m.length) (hn : l.length ≤ 9223372036854775807) (d : Nat) : ∀ i : Int, 0 ≤ i → i ≤ l.length → (l.length : Int) - i = d → (∀ j : Nat, j < i.toNat → l.getD j 0 = m.getD j 0) → ∃ b, Ev (fun k => stratumref07_SameInts.l0 k l m i) b ∧ (b = true ↔ l = m) := by
  induction d with
  | zero =>
    intro i h0 h1 hd hp
    exact ⟨true, Ev.step (f := fun _ => some true) (fun k => by simp only [stratumref07_SameInts.l0]; rw [if_neg (by omega)]) (Ev.now _), by
      simp only [true_iff]
      exact UM l m h l.length (fun j hj => hp j (by omega)) (Nat.le_refl _)⟩
  | succ d ih =>
    intro i h0 h1 hd hp
    have hlt : i < (l.length : Int) := by omega
    by_cases c : rd l i = rd m i
    · obtain ⟨b, h2, h3⟩ := ih (i + 1) (by omega) (by omega) (by omega) (fun j hj => by
        rcases Nat.lt_or_ge j i.toNat with h | h
        · exact hp j h
        · obtain rfl : j = i.toNat := by omega
          exact c)
      exact ⟨b, Ev.step (fun k => by simp only [stratumref07_SameInts.l0]; rw [if_pos hlt, if_pos h0, if_pos (by omega), if_pos c, mQ h0 hlt hn]) h2, h3⟩
    · refine ⟨false, Ev.step (f := fun _ => some false) (fun k => by simp only [stratumref07_SameInts.l0]; rw [if_pos hlt, if_pos h0, if_pos (by omega), if_neg c]) (Ev.now _), ?_⟩
      simp only [Bool.false_eq_true, false_iff]
      intro e
      rw [e] at c
      exact c rfl
theorem IJ (l m : List Int) (hn : l.length ≤ 9223372036854775807) : ∃ b, Ev (fun k => stratumref07_SameInts.f k l m) b ∧ (b = true ↔ l = m) := by
  by_cases h : (l.length : Int) = (m.length : Int)
  · obtain ⟨b, h1, h2⟩ := zI l m (by omega) hn l.length 0 (by omega) (by omega) (by omega) (fun j hj => by simp at hj)
    exact ⟨b, Ev.congr (fun k => by unfold stratumref07_SameInts.f; rw [if_pos h]) h1, h2⟩
  · refine ⟨false, Ev.congr (f := fun _ => some false) (fun k => by unfold stratumref07_SameInts.f; rw [if_neg h]) (Ev.now _), ?_⟩
    simp only [Bool.false_eq_true, false_iff]
    intro e
    exact h (by rw [e])
theorem QU (l m : List jV) (h : l.length = m.length) (hk : ∀ i : Nat, i < l.length → (l.getD i z98).f0 = (m.getD i z98).f0 ∧ (l.getD i z98).f1 = (m.getD i z98).f1) : l = m := by
  apply List.ext_getElem h
  intro i h1 h2
  have := hk i h1
  rw [List.getD_eq_getElem?_getD, List.getD_eq_getElem?_getD, List.getElem?_eq_getElem h1, List.getElem?_eq_getElem h2] at this
  simp only [Option.getD_some] at this
  cases hx : l[i]
  cases hy : m[i]
  rw [hx, hy] at this
  simp only at this
  rw [this.1, this.2]
theorem J4 (a b : Int) (l m : List jV) (h : l.length = m.length) (hn : l.length ≤ 9223372036854775807) (d : Nat) : ∀ i : Int, 0 ≤ i → i ≤ l.length → (l.length : Int) - i = d → (∀ j : Nat, j < i.toNat → (l.getD j z98).f0 = (m.getD j z98).f0 ∧ (l.getD j z98).f1 = (m.getD j z98).f1) → ∃ t, Ev (fun k => stratumref07_SameMap.l0 k i a l b m) t ∧ (t = true ↔ l = m) := by
  induction d with
  | zero =>
    intro i h0 h1 hd hp
    exact ⟨true, Ev.step (f := fun _ => some true) (fun k => by simp only [stratumref07_SameMap.l0]; rw [if_neg (by omega)]) (Ev.now _), by
      simp only [true_iff]
      exact QU l m h (fun j hj => hp j (by omega))⟩
  | succ d ih =>
    intro i h0 h1 hd hp
    have hlt : i < (l.length : Int) := by omega
    by_cases c : (jL l i).f0 = (jL m i).f0 ∧ (jL l i).f1 = (jL m i).f1
    · obtain ⟨b, h2, h3⟩ := ih (i + 1) (by omega) (by omega) (by omega) (fun j hj => by
        rcases Nat.lt_or_ge j i.toNat with h | h
        · exact hp j h
        · obtain rfl : j = i.toNat := by omega
          exact c)
      exact ⟨b, Ev.step (fun k => by simp only [stratumref07_SameMap.l0]; rw [if_pos hlt, if_pos h0, if_pos (by omega), if_neg (by simp [c.1, c.2]), mQ h0 hlt hn]) h2, h3⟩
    · refine ⟨false, Ev.step (f := fun _ => some false) (fun k => by simp only [stratumref07_SameMap.l0]; rw [if_pos hlt, if_pos h0, if_pos (by omega), if_pos (by simp; exact Classical.not_and_iff_not_or_not.mp c)]) (Ev.now _), ?_⟩
      simp only [Bool.false_eq_true, false_iff]
      intro e
      rw [e] at c
      exact c ⟨rfl, rfl⟩
theorem MW (a b : Int) (l m : List jV) (hn : l.length ≤ 9223372036854775807) : ∃ t, Ev (fun k => stratumref07_SameMap.f k a l b m) t ∧ (t = true ↔ (a = b ∧ l = m)) := by
  have hno : ∀ (x : Bool), x = true → Ev (fun k => stratumref07_SameMap.j0 k x a l b m) false := fun x hx => Ev.step (f := fun _ => some false) (fun k => by simp only [stratumref07_SameMap.j0]; rw [if_pos hx]) (Ev.now _)
  by_cases hab : a = b
  · by_cases h : (l.length : Int) = (m.length : Int)
    · obtain ⟨t, h1, h2⟩ := J4 a b l m (by omega) hn l.length 0 (by omega) (by omega) (by omega) (fun j hj => by simp at hj)
      refine ⟨t, Ev.congr (fun k => by unfold stratumref07_SameMap.f; rw [if_pos hab]) (Ev.step (fun k => by simp only [stratumref07_SameMap.j0]; rw [if_neg (by simp [h])]) h1), ?_⟩
      rw [h2]; exact ⟨fun e => ⟨hab, e⟩, fun e => e.2⟩
    · refine ⟨false, Ev.congr (fun k => by unfold stratumref07_SameMap.f; rw [if_pos hab]) (hno _ (by simpa [bne] using h)), ?_⟩
      simp only [Bool.false_eq_true, false_iff]
      intro e
      exact h (by rw [e.2])
  · refine ⟨false, Ev.congr (fun k => by unfold stratumref07_SameMap.f; rw [if_neg hab]) (hno true rfl), ?_⟩
    simp only [Bool.false_eq_true, false_iff]
    exact fun e => hab e.1
def UK (x y : SRec) : Prop := x.f0 = y.f0 ∧ x.f1 = y.f1 ∧ x.f2 = y.f2 ∧ x.f6 = y.f6 ∧ x.f7 = y.f7 ∧ x.f3 = y.f3 ∧ kC x.f4 = kC y.f4 ∧ (x.f5.f0 = y.f5.f0 ∧ x.f5.f1 = y.f5.f1) ∧ jR x.f8 = jR y.f8
structure SLen (x : SRec) : Prop where
  n3 : x.f3.length ≤ 9223372036854775807
  n4 : (kC x.f4).length ≤ 140737488355328
  n6 : x.f5.f1.length ≤ 9223372036854775807
  n9 : (jR x.f8).length ≤ 140737488355328
theorem zX (l m : List jO) (hl : (kC l).length ≤ 140737488355328) (hm : (kC m).length ≤ 140737488355328) : ∃ t, Ev (fun k => stratumref07_SameFacts.f k l m) t ∧ (t = true ↔ kC l = kC m) := by
  have e1 := vH l [] (by simpa using hl)
  have e2 := vH m [] (by simpa using hm)
  rw [List.nil_append] at e1 e2
  refine ⟨decide (kC l = kC m), ?_, by simp⟩
  unfold stratumref07_SameFacts.f
  refine Ev.bind e1 (Ev.bind e2 ?_)
  rw [pJ]
  exact Ev.now _
theorem xA (l m : List jE) (hl : (jR l).length ≤ 140737488355328) (hm : (jR m).length ≤ 140737488355328) : stratumref07_SameEntries.f l m = some (decide (jR l = jR m)) := by
  unfold stratumref07_SameEntries.f stratumref07_Entries.f
  rw [if_pos ⟨rfl, hl⟩, if_pos ⟨rfl, hm⟩]
  simp only [Option.bind_some]
  rw [pJ]
theorem TG (x y : SRec) (hx : SLen x) (hy : SLen y) : ∃ t, Ev (fun k => stratumref07_Same.f k x.f0 x.f1 x.f2 x.f3 x.f4 x.f5.f0 x.f5.f1 x.f6 x.f7 x.f8 y.f0 y.f1 y.f2 y.f3 y.f4 y.f5.f0 y.f5.f1 y.f6 y.f7 y.f8) t ∧ (t = true ↔ UK x y) := by
  have hno : ∀ (b : Bool), b = false → Ev (fun k => stratumref07_Same.j0 k b x.f0 x.f1 x.f2 x.f3 x.f4 x.f5.f0 x.f5.f1 x.f6 x.f7 x.f8 y.f0 y.f1 y.f2 y.f3 y.f4 y.f5.f0 y.f5.f1 y.f6 y.f7 y.f8) false := fun b hb => Ev.step (f := fun _ => some false) (fun k => by simp only [stratumref07_Same.j0]; rw [if_neg (by rw [hb]; decide)]) (Ev.now _)
  have no : ∀ {p : Prop}, ¬ p → (false = true ↔ p) := fun h => ⟨(fun e => by cases e), fun e => absurd e h⟩
  by_cases h0 : x.f0 = y.f0
  case neg => exact ⟨false, Ev.congr (fun k => by unfold stratumref07_Same.f; rw [if_neg h0]) (hno false rfl), no (fun e => h0 e.1)⟩
  by_cases h1 : x.f1 = y.f1
  case neg => exact ⟨false, Ev.congr (fun k => by unfold stratumref07_Same.f; rw [if_pos h0, if_neg h1]) (hno false rfl), no (fun e => h1 e.2.1)⟩
  by_cases h2 : x.f2 = y.f2
  case neg => exact ⟨false, Ev.congr (fun k => by unfold stratumref07_Same.f; rw [if_pos h0, if_pos h1, if_neg h2]) (hno false rfl), no (fun e => h2 e.2.2.1)⟩
  by_cases h6 : x.f6 = y.f6
  case neg => exact ⟨false, Ev.congr (fun k => by unfold stratumref07_Same.f; rw [if_pos h0, if_pos h1, if_pos h2, if_neg h6]) (hno false rfl), no (fun e => h6 e.2.2.2.1)⟩
  by_cases h7 : x.f7 = y.f7
  case neg => exact ⟨false, Ev.congr (fun k => by unfold stratumref07_Same.f; rw [if_pos h0, if_pos h1, if_pos h2, if_pos h6]) (hno _ (by simpa using h7)), no (fun e => h7 e.2.2.2.2.1)⟩
  obtain ⟨t3, a3, b3⟩ := IJ x.f3 y.f3 hx.n3
  obtain ⟨t4, a4, b4⟩ := zX x.f4 y.f4 hx.n4 hy.n4
  obtain ⟨t5, a5, b5⟩ := MW x.f5.f0 y.f5.f0 x.f5.f1 y.f5.f1 hx.n6
  have a9 := xA x.f8 y.f8 hx.n9 hy.n9
  refine ⟨t3 && (t4 && (t5 && decide (jR x.f8 = jR y.f8))), Ev.congr (fun k => by unfold stratumref07_Same.f; rw [if_pos h0, if_pos h1, if_pos h2, if_pos h6]) (Ev.step (fun k => by simp only [stratumref07_Same.j0]; rw [if_pos (by simpa using h7)]) (Ev.bind a3 (qY _ (Ev.bind a4 (qY _ (Ev.bind a5 (qY _ ?_))))))), ?_⟩
  · exact Ev.congr (fun k => by rw [a9]; rfl) (Ev.now _)
  · simp only [Bool.and_eq_true, decide_eq_true_eq, b3, b4, b5]
    exact ⟨fun e => ⟨h0, h1, h2, h6, h7, e.1, e.2.1, e.2.2.1, e.2.2.2⟩, fun e => ⟨e.2.2.2.2.2.1, e.2.2.2.2.2.2.1, e.2.2.2.2.2.2.2.1, e.2.2.2.2.2.2.2.2⟩⟩
end Go.Proofs.YtgfkgppomaapiaaDoor.K
end

section
namespace Go.Proofs.YtgfkgppomaapiaaDoor.K
open RowKit YtgfkgppomaapiaaDoorW.PrintWords YtgfkgppomaapiaaDoorW.PrintLast YtgfkgppomaapiaaDoorW.PrintMore My
theorem J8 (r : SRec) (h : jJ r = true) :
    (r.f0 = 1 ∧ lU (-1) r.f3 = true ∧ lW r.f4 = true ∧ r.f2 = 0 ∧ r.f5.f0 = 0 ∧ r.f5.f1 = [] ∧ r.f6 = 0 ∧ r.f7 = 0 ∧ r.f8 = []) ∨
    (r.f0 = 2 ∧ lU (-1) r.f3 = true ∧ r.f4 = [] ∧ r.f5.f0 = 0 ∧ r.f5.f1 = [] ∧ r.f6 = 0 ∧ r.f7 = 0 ∧ r.f8 = []) ∨
    ((r.f0 = 3 ∨ r.f0 = 4 ∨ r.f0 = 5) ∧ r.f2 = 0 ∧ r.f3 = [] ∧ r.f4 = [] ∧ r.f5.f0 = 0 ∧ r.f5.f1 = [] ∧ r.f6 = 0 ∧ r.f7 = 0 ∧ r.f8 = []) ∨
    (r.f0 = 6 ∧ r.f1 = 0 ∧ r.f5.f1.length ≤ 40 ∧ (∀ s ∈ r.f5.f1, lT s = true) ∧ r.f2 = 0 ∧ r.f3 = [] ∧ r.f4 = [] ∧ r.f6 = 0 ∧ r.f7 = 0 ∧ r.f8 = []) ∨
    (r.f0 = 7 ∧ nC r.f8 = true ∧ r.f8.length ≤ 5000 ∧ (0 ≤ r.f6 ∧ r.f6 ≤ 10000) ∧ (0 ≤ r.f7 ∧ r.f7 ≤ 10000) ∧ r.f2 = 0 ∧ r.f3 = [] ∧ r.f4 = [] ∧ r.f5.f0 = 0 ∧ r.f5.f1 = []) := by
  unfold jJ at h
  by_cases h1 : r.f0 = 1
  · rw [if_pos h1] at h
    simp only [Bool.and_eq_true, beq_iff_eq] at h
    obtain ⟨⟨⟨⟨⟨⟨⟨ha, hb⟩, hc⟩, hd⟩, he⟩, hf⟩, hg⟩, hi⟩ := h
    exact .inl ⟨h1, ha, hb, hc, hd, nH he, hf, hg, nH hi⟩
  rw [if_neg h1] at h
  by_cases h2 : r.f0 = 2
  · rw [if_pos h2] at h
    simp only [Bool.and_eq_true, beq_iff_eq] at h
    obtain ⟨⟨⟨⟨⟨⟨ha, hb⟩, hc⟩, hd⟩, he⟩, hf⟩, hg⟩ := h
    exact .inr (.inl ⟨h2, ha, nH hb, hc, nH hd, he, hf, nH hg⟩)
  rw [if_neg h2] at h
  by_cases h3 : (decide (r.f0 = 3) || decide (r.f0 = 4) || decide (r.f0 = 5)) = true
  · rw [if_pos h3] at h
    have h3' : r.f0 = 3 ∨ r.f0 = 4 ∨ r.f0 = 5 := by
      simp only [Bool.or_eq_true, decide_eq_true_eq] at h3
      omega
    simp only [Bool.and_eq_true, beq_iff_eq] at h
    obtain ⟨⟨⟨⟨⟨⟨⟨ha, hb⟩, hc⟩, hd⟩, he⟩, hf⟩, hg⟩, hi⟩ := h
    exact .inr (.inr (.inl ⟨h3', ha, nH hb, nH hc, hd, nH he, hf, hg, nH hi⟩))
  rw [if_neg h3] at h
  by_cases h6 : r.f0 = 6
  · rw [if_pos h6] at h
    simp only [Bool.and_eq_true, beq_iff_eq, decide_eq_true_eq, List.all_eq_true] at h
    obtain ⟨⟨⟨⟨⟨⟨⟨⟨ha, hb⟩, hc⟩, hd⟩, he⟩, hf⟩, hg⟩, hi⟩, hj⟩ := h
    exact .inr (.inr (.inr (.inl ⟨h6, ha, hb, hc, hd, nH he, nH hf, hg, hi, nH hj⟩)))
  rw [if_neg h6] at h
  by_cases h7 : r.f0 = 7
  · rw [if_pos h7] at h
    simp only [Bool.and_eq_true, beq_iff_eq, decide_eq_true_eq] at h
    obtain ⟨⟨⟨⟨⟨⟨⟨⟨⟨⟨ha, hb⟩, hc⟩, hd⟩, he⟩, hf⟩, hg⟩, hi⟩, hj⟩, hk⟩, hl⟩ := h
    exact .inr (.inr (.inr (.inr ⟨h7, ha, hb, ⟨hc, hd⟩, ⟨he, hf⟩, hg, nH hi, nH hj, hk, nH hl⟩)))
  rw [if_neg h7] at h
  cases h
theorem qR : (kC []).length ≤ 140737488355328 := by decide
theorem oI : (jR []).length ≤ 140737488355328 := by decide
theorem LU (r : SRec) (h : jJ r = true) : SLen r := by
  rcases J8 r h with ⟨_, h3, h4, _, _, h6, _, _, h9⟩ | ⟨_, h3, h4, _, h6, _, _, h9⟩ | ⟨_, _, h3, h4, _, h6, _, _, h9⟩ | ⟨_, _, h6, _, _, h3, h4, _, _, h9⟩ | ⟨_, h9, h95, _, _, _, h3, h4, _, h6⟩
  · exact ⟨by have := o8 _ h3; omega, by have := qK _ h4; omega, by rw [h6]; decide, by rw [h9]; exact oI⟩
  · exact ⟨by have := o8 _ h3; omega, by rw [h4]; exact qR, by rw [h6]; decide, by rw [h9]; exact oI⟩
  · exact ⟨by rw [h3]; decide, by rw [h4]; exact qR, by rw [h6]; decide, by rw [h9]; exact oI⟩
  · exact ⟨by rw [h3]; decide, by rw [h4]; exact qR, by omega, by rw [h9]; exact oI⟩
  · exact ⟨by rw [h3]; decide, by rw [h4]; exact qR, by rw [h6]; decide, by have := pX _ h9 h95; omega⟩
end Go.Proofs.YtgfkgppomaapiaaDoor.K
end

section
namespace Go.Proofs.YtgfkgppomaapiaaDoor.K
open RowKit YtgfkgppomaapiaaDoorW.PrintWords YtgfkgppomaapiaaDoorW.PrintLast YtgfkgppomaapiaaDoorW.PrintMore My
structure Lies (w : World) (r : SRec) (A3 : Option Addr) (a3 : Nat) (A4 : Option Addr) (a4 : Nat) (A6 : Option Addr) (a6 : Nat) (A9 : Option Addr) (a9 : Nat) : Prop where
  h3 : Kd.C (Kd.int .i64) w A3 r.f3.length r.f3
  d3 : r.f3.length ≤ a3
  h4 : Kd.C k139 w A4 r.f4.length r.f4
  d4 : r.f4.length ≤ a4
  h6 : Kd.C k98 w A6 r.f5.f1.length r.f5.f1
  d6 : r.f5.f1.length ≤ a6
  h9 : Kd.C k86 w A9 r.f8.length r.f8
  d9 : r.f8.length ≤ a9
theorem Lies.below {w w' : World} {r : SRec} {A3 A4 A6 A9 : Option Addr} {a3 a4 a6 a9 : Nat} (h : Lies w r A3 a3 A4 a4 A6 a6 A9 a9) (hb : Below w.heap.size w w') : Lies w' r A3 a3 A4 a4 A6 a6 A9 a9 :=
  ⟨Kd.C_below h.h3 hb, h.d3, Kd.C_below h.h4 hb, h.d4, Kd.C_below h.h6 hb, h.d6, Kd.C_below h.h9 hb, h.d9⟩
theorem PN {w : World} {r s : SRec} {A3 A4 A6 A9 B3 B4 B6 B9 : Option Addr} {a3 a4 a6 a9 b3 b4 b6 b9 : Nat} (h : Lies w r A3 a3 A4 a4 A6 a6 A9 a9) (g : Lies w s B3 b3 B4 b4 B6 b6 B9 b9) {t : Bool} (ht : ∃ k, stratumref07_Same.f k r.f0 r.f1 r.f2 r.f3 r.f4 r.f5.f0 r.f5.f1 r.f6 r.f7 r.f8 s.f0 s.f1 s.f2 s.f3 s.f4 s.f5.f0 s.f5.f1 s.f6 s.f7 s.f8 = some t) :
    Calls Tryd.prog 23 #[.agg #[.int .u8 r.f0, .int .u32 r.f1, .int .u32 r.f2, .slice A3 r.f3.length a3, .slice A4 r.f4.length a4, .int .u32 r.f5.f0, .slice A6 r.f5.f1.length a6, .int .i64 r.f6, .int .i64 r.f7, .slice A9 r.f8.length a9], .agg #[.int .u8 s.f0, .int .u32 s.f1, .int .u32 s.f2, .slice B3 s.f3.length b3, .slice B4 s.f4.length b4, .int .u32 s.f5.f0, .slice B6 s.f5.f1.length b6, .int .i64 s.f6, .int .i64 s.f7, .slice B9 s.f8.length b9]] w fun e w' => e = .returned (.bool t) ∧ Below w.heap.size w w' := by
  obtain ⟨k, hk⟩ := ht
  exact stratumref07_Same.calls k _ _ _ _ _ _ _ _ _ _ _ _ _ _ _ _ _ _ _ _ _ _ _ _ _ _ _ _ _ _ _ _ _ _ _ _ t w h.h3 h.d3 h.h4 h.d4 h.h6 h.d6 h.h9 h.d9 g.h3 g.d3 g.h4 g.d4 g.h6 g.d6 g.h9 g.d9 hk
end Go.Proofs.YtgfkgppomaapiaaDoor.K
end

section
namespace Go.Proofs.YtgfkgppomaapiaaDoor.K
open RowKit YtgfkgppomaapiaaDoorW.PrintWords YtgfkgppomaapiaaDoorW.PrintLast YtgfkgppomaapiaaDoorW.PrintMore My
structure lJ (w0 w W : World) (g : Nat) (x : SRec) (A3 : Option Addr) (a3 : Nat) (A4 : Option Addr) (a4 : Nat) (A6 : Option Addr) (a6 : Nat) (A9 : Option Addr) (a9 : Nat) (r : List UInt8) (b : Bool) : Prop where
  xb : W.heap[w.heap.size + 1]? = some (.cells #[.int .u8 x.f0, .int .u32 x.f1, .int .u32 x.f2, .slice A3 x.f3.length a3, .slice A4 x.f4.length a4, .int .u32 x.f5.f0, .slice A6 x.f5.f1.length a6, .int .i64 x.f6, .int .i64 x.f7, .slice A9 x.f8.length a9] 30 (0, 0))
  zb : W.heap[w.heap.size]? = some (.cells #[.int .u8 0, .int .u32 0, .int .u32 0, .slice none 0 0, .slice none 0 0, .int .u32 0, .slice none 0 0, .int .i64 0, .int .i64 0, .slice none 0 0] 30 (0, 0))
  r3 : Kd.R (Kd.int .i64) 3 W (w.heap.size + 2) (fun _ => True) (.slice A3 x.f3.length a3) x.f3
  r4 : Kd.R k139 139 W (w.heap.size + 2) (fun _ => True) (.slice A4 x.f4.length a4) x.f4
  r6 : Kd.R k98 98 W (w.heap.size + 2) (fun _ => True) (.slice A6 x.f5.f1.length a6) x.f5.f1
  r9 : Kd.R k86 86 W (w.heap.size + 2) (fun _ => True) (.slice A9 x.f8.length a9) x.f8
  rb : RB w0 W g r b
  gr : w.grownBy W (some g)
  bl : Below w0.heap.size w0 W
section
variable {w0 w W W' : World} {g : Nat} {x x' : SRec} {A3 A4 A6 A9 B3 B4 B6 B9 : Option Addr} {a3 a4 a6 a9 b3 b4 b6 b9 : Nat} {r r' : List UInt8} {b b' : Bool}
theorem lJ.size (h : lJ w0 w W g x A3 a3 A4 a4 A6 a6 A9 a9 r b) : w.heap.size + 2 ≤ W.heap.size := iZ h.xb
theorem lJ.step (h : lJ w0 w W g x A3 a3 A4 a4 A6 a6 A9 a9 r b) (hg : w0.heap.size ≤ g) (hlt : g < w.heap.size) (hG : W.grownBy W' (some g)) (hR : RB w0 W' g r' b') : lJ w0 w W' g x A3 a3 A4 a4 A6 a6 A9 a9 r' b' :=
  ⟨(hG.block _ (iZ h.xb) (by intro e; injection e with e; omega)).trans h.xb, (hG.block _ (iZ h.zb) (by intro e; injection e with e; omega)).trans h.zb,
   jM h.r3 hG (by omega), jM h.r4 hG (by omega), jM h.r6 hG (by omega), jM h.r9 hG (by omega), hR, iR h.gr hG, below_grown h.bl hG hg (Nat.le_refl _)⟩
theorem lJ.set (h : lJ w0 w W g x A3 a3 A4 a4 A6 a6 A9 a9 r b) (h0 : w0.heap.size ≤ w.heap.size) (hlt : g < w.heap.size)
    (r3 : Kd.R (Kd.int .i64) 3 W (w.heap.size + 2) (fun _ => True) (.slice B3 x'.f3.length b3) x'.f3) (r4 : Kd.R k139 139 W (w.heap.size + 2) (fun _ => True) (.slice B4 x'.f4.length b4) x'.f4)
    (r6 : Kd.R k98 98 W (w.heap.size + 2) (fun _ => True) (.slice B6 x'.f5.f1.length b6) x'.f5.f1) (r9 : Kd.R k86 86 W (w.heap.size + 2) (fun _ => True) (.slice B9 x'.f8.length b9) x'.f8) :
    lJ w0 w (W.setRow (w.heap.size + 1) #[.int .u8 x'.f0, .int .u32 x'.f1, .int .u32 x'.f2, .slice B3 x'.f3.length b3, .slice B4 x'.f4.length b4, .int .u32 x'.f5.f0, .slice B6 x'.f5.f1.length b6, .int .i64 x'.f6, .int .i64 x'.f7, .slice B9 x'.f8.length b9]) g x' B3 b3 B4 b4 B6 b6 B9 b9 r b :=
  have hG := jH W (w.heap.size + 1) #[.int .u8 x'.f0, .int .u32 x'.f1, .int .u32 x'.f2, .slice B3 x'.f3.length b3, .slice B4 x'.f4.length b4, .int .u32 x'.f5.f0, .slice B6 x'.f5.f1.length b6, .int .i64 x'.f6, .int .i64 x'.f7, .slice B9 x'.f8.length b9]
  ⟨setRow_heap _ _ _ _ _ _ h.xb, (setRow_other W (w.heap.size + 1) (w.heap.size) _ (by omega)).trans h.zb, jM r3 hG (by omega), jM r4 hG (by omega), jM r6 hG (by omega), jM r9 hG (by omega),
   RB.grown h.rb hG (by intro e; injection e with e; omega), jU h.gr hG (Nat.le_succ _), below_grown h.bl hG (by omega) (Nat.le_refl _)⟩
theorem lJ.start (h : RB w0 w g r b) (hb : Below w0.heap.size w0 w) (hg : w0.heap.size ≤ g) : lJ w0 w ((w.alloc (.cells #[.int .u8 0, .int .u32 0, .int .u32 0, .slice none 0 0, .slice none 0 0, .int .u32 0, .slice none 0 0, .int .i64 0, .int .i64 0, .slice none 0 0] 30)).alloc (.cells #[.int .u8 0, .int .u32 0, .int .u32 0, .slice none 0 0, .slice none 0 0, .int .u32 0, .slice none 0 0, .int .i64 0, .int .i64 0, .slice none 0 0] 30)) g ⟨0, 0, 0, [], [], ⟨0, []⟩, 0, 0, []⟩ none 0 none 0 none 0 none 0 r b := by
  have hbw : Below w.heap.size w ((w.alloc (.cells #[.int .u8 0, .int .u32 0, .int .u32 0, .slice none 0 0, .slice none 0 0, .int .u32 0, .slice none 0 0, .int .i64 0, .int .i64 0, .slice none 0 0] 30)).alloc (.cells #[.int .u8 0, .int .u32 0, .int .u32 0, .slice none 0 0, .slice none 0 0, .int .u32 0, .slice none 0 0, .int .i64 0, .int .i64 0, .slice none 0 0] 30)) := iF (iF (Below.refl _ _) _) _
  exact ⟨iT (by simp), jG (iT rfl), Kd.R_nil _ _ _ _ _, Kd.R_nil _ _ _ _ _, Kd.R_nil _ _ _ _ _, Kd.R_nil _ _ _ _ _, RB.grown h (grown_below (row := none) hbw) (by simp), grown_below hbw, iI hb hbw⟩
end
end Go.Proofs.YtgfkgppomaapiaaDoor.K
end

section
namespace Go.Proofs.YtgfkgppomaapiaaDoor.K
open RowKit YtgfkgppomaapiaaDoorW.PrintWords YtgfkgppomaapiaaDoorW.PrintLast YtgfkgppomaapiaaDoorW.PrintMore My
section
variable {w : World} {b : Nat} {c0 c1 c2 c3 c4 c5 c6 c7 c8 c9 : Value}
theorem UQ (x : Int) (h : w.heap[b]? = some (.cells #[c0, c1, c2, c3, c4, c5, c6, c7, c8, c9] 30 (0, 0))) : (Instr.storeAt 5 (.pointer (some ⟨b, 0, none⟩)) (.int .u8 x)).run Tryd.prog w = .ok () (w.setRow b #[.int .u8 x, c1, c2, c3, c4, c5, c6, c7, c8, c9]) := by
  have z : w.cell? ⟨b, 0, none⟩ = some c0 := (iE h 0).trans rfl
  have y : w.frozen? ⟨b, 0, none⟩ = false := iD h 0
  rw [show w.setRow b #[.int .u8 x, c1, c2, c3, c4, c5, c6, c7, c8, c9] = w.setCell ⟨b, 0, none⟩ (.int .u8 x) from (setCell_eq_setRow w b 0 _ _ _ (.int .u8 x) h).symm]
  simp [go_sem, z, y]
theorem UW (x : Int) (h : w.heap[b]? = some (.cells #[c0, c1, c2, c3, c4, c5, c6, c7, c8, c9] 30 (0, 0))) : (Instr.storeAt 22 (.pointer (some ⟨b, 1, none⟩)) (.int .u32 x)).run Tryd.prog w = .ok () (w.setRow b #[c0, .int .u32 x, c2, c3, c4, c5, c6, c7, c8, c9]) := by
  have z : w.cell? ⟨b, 1, none⟩ = some c1 := (iE h 1).trans rfl
  have y : w.frozen? ⟨b, 1, none⟩ = false := iD h 1
  rw [show w.setRow b #[c0, .int .u32 x, c2, c3, c4, c5, c6, c7, c8, c9] = w.setCell ⟨b, 1, none⟩ (.int .u32 x) from (setCell_eq_setRow w b 1 _ _ _ (.int .u32 x) h).symm]
  simp [go_sem, z, y]
end
structure Owns (base : Nat) (w : World) (x : SRec) (A3 : Option Addr) (a3 : Nat) (A4 : Option Addr) (a4 : Nat) (A6 : Option Addr) (a6 : Nat) (A9 : Option Addr) (a9 : Nat) : Prop where
  r3 : Kd.R (Kd.int .i64) 3 w base (fun _ => True) (.slice A3 x.f3.length a3) x.f3
  r4 : Kd.R k139 139 w base (fun _ => True) (.slice A4 x.f4.length a4) x.f4
  r6 : Kd.R k98 98 w base (fun _ => True) (.slice A6 x.f5.f1.length a6) x.f5.f1
  r9 : Kd.R k86 86 w base (fun _ => True) (.slice A9 x.f8.length a9) x.f8
section
variable {base : Nat} {w w' : World} {x : SRec} {A3 A4 A6 A9 : Option Addr} {a3 a4 a6 a9 : Nat}
theorem Owns.lies (h : Owns base w x A3 a3 A4 a4 A6 a6 A9 a9) : Lies w x A3 a3 A4 a4 A6 a6 A9 a9 := by
  obtain ⟨_, q3, C3⟩ := Kd.R_reads' h.r3
  obtain ⟨_, q4, C4⟩ := Kd.R_reads' h.r4
  obtain ⟨_, q6, C6⟩ := Kd.R_reads' h.r6
  obtain ⟨_, q9, C9⟩ := Kd.R_reads' h.r9
  exact ⟨C3, q3, C4, q4, C6, q6, C9, q9⟩
theorem Owns.below (h : Owns base w x A3 a3 A4 a4 A6 a6 A9 a9) (hb : Below w.heap.size w w') : Owns base w' x A3 a3 A4 a4 A6 a6 A9 a9 := ⟨Kd.R_below h.r3 hb, Kd.R_below h.r4 hb, Kd.R_below h.r6 hb, Kd.R_below h.r9 hb⟩
theorem Owns.keep (h : Owns base w x A3 a3 A4 a4 A6 a6 A9 a9) {g : Nat} (hG : w.grownBy w' (some g)) (hlt : g < base) : Owns base w' x A3 a3 A4 a4 A6 a6 A9 a9 := ⟨jM h.r3 hG hlt, jM h.r4 hG hlt, jM h.r6 hG hlt, jM h.r9 hG hlt⟩
end
def RV (l : List UInt8) (w0 w : World) (g : Nat) (e : Ending) (w' : World) : Prop := ∃ (x : SRec) (A3 : Option Addr) (a3 : Nat) (A4 : Option Addr) (a4 : Nat) (A6 : Option Addr) (a6 : Nat) (A9 : Option Addr) (a9 : Nat) (r : List UInt8) (b : Bool), e = .returned (.agg #[.int .u8 x.f0, .int .u32 x.f1, .int .u32 x.f2, .slice A3 x.f3.length a3, .slice A4 x.f4.length a4, .int .u32 x.f5.f0, .slice A6 x.f5.f1.length a6, .int .i64 x.f6, .int .i64 x.f7, .slice A9 x.f8.length a9]) ∧ Owns w.heap.size w' x A3 a3 A4 a4 A6 a6 A9 a9 ∧ RB w0 w' g r b ∧ w.grownBy w' (some g) ∧ (b = false → recP l = some (x, r)) ∧ (b = true → recP l = none)
theorem qL {tmps : Array Value} {W : World} {p : Tmp} {b : Nat} {cs : Array Value} (h : Tryd.f79.results = #[.cell p 30]) (hp : tmps.getD p undef = .pointer (some ⟨b, 0, none⟩)) (hx : W.heap[b]? = some (.cells cs 30 (0, 0))) (hs : cs.size = 10) :
    (results Tryd.f79 tmps).run Tryd.prog W = .ok (.agg cs) W := by
  exact results_cell_row h _ _ _ _ _ _ _ hp hx Tryd.underlying30 rfl (by rw [hs]; kernel_rfl)
theorem JH : (Tryd.prog).built 30 (#[] : Array (Nat × Value)).toList = some #[.int .u8 0, .int .u32 0, .int .u32 0, .slice none 0 0, .slice none 0 0, .int .u32 0, .slice none 0 0, .int .i64 0, .int .i64 0, .slice none 0 0] := by kernel_rfl
theorem LD (w : World) : (Instr.build 30 #[]).run Tryd.prog w = .ok (.agg #[.int .u8 0, .int .u32 0, .int .u32 0, .slice none 0 0, .slice none 0 0, .int .u32 0, .slice none 0 0, .int .i64 0, .int .i64 0, .slice none 0 0]) w := run_build w _ _ _ JH
theorem RP.split {α : Type} {res : Option (α × List UInt8)} {val : α → Value → World → Prop} {w0 w w' : World} {g len : Nat} {e : Ending} {b2 : Bool} (h : RP (if b2 = true then none else res) val w0 w g len e w') :
    w.grownBy w' (some g) ∧ ∃ x v r3 b3, e = .returned v ∧ val x v w' ∧ RB w0 w' g r3 b3 ∧ r3.length ≤ len ∧ (b3 = false → b2 = false ∧ res = some (x, r3)) ∧ (b3 = true → b2 = true ∨ res = none) := by
  obtain ⟨hG, x, v, he, hv, hres⟩ := h
  refine ⟨hG, x, v, ?_⟩
  cases b2 with
  | true =>
    rw [if_pos rfl] at hres
    rcases hres with ⟨l', h1, _⟩ | ⟨_, l', h2, h3⟩
    · cases h1
    · exact ⟨l', true, he, hv, h3, h2, fun h => (by cases h), fun _ => .inl rfl⟩
  | false =>
    rw [if_neg (by decide)] at hres
    rcases hres with ⟨l', h1, h2, h3⟩ | ⟨h1, l', h2, h3⟩
    · exact ⟨l', false, he, hv, h3, h2, fun _ => ⟨rfl, h1⟩, fun h => by cases h⟩
    · exact ⟨l', true, he, hv, h3, h2, fun h => (by cases h), fun _ => .inr h1⟩
theorem lJ.fin {w0 w W : World} {g : Nat} {x : SRec} {A3 A4 A6 A9 : Option Addr} {a3 a4 a6 a9 : Nat} {r : List UInt8} {b : Bool} (h : lJ w0 w W g x A3 a3 A4 a4 A6 a6 A9 a9 r b) (hlt : g < w.heap.size) (cs : Array Value) :
    Owns w.heap.size (W.setRow w.heap.size cs) x A3 a3 A4 a4 A6 a6 A9 a9 ∧ RB w0 (W.setRow w.heap.size cs) g r b ∧ w.grownBy (W.setRow w.heap.size cs) (some g) := by
  have hG := jH W w.heap.size cs
  exact ⟨⟨Kd.R_lower (jM h.r3 hG (by omega)) (by omega), Kd.R_lower (jM h.r4 hG (by omega)) (by omega), Kd.R_lower (jM h.r6 hG (by omega)) (by omega), Kd.R_lower (jM h.r9 hG (by omega)) (by omega)⟩, RB.grown h.rb hG (by intro e; injection e with e; omega), jU h.gr hG (Nat.le_refl _)⟩
end Go.Proofs.YtgfkgppomaapiaaDoor.K
end

section
namespace Go.Proofs.YtgfkgppomaapiaaDoor.K
open RowKit YtgfkgppomaapiaaDoorW.PrintWords YtgfkgppomaapiaaDoorW.PrintLast YtgfkgppomaapiaaDoorW.PrintMore My
theorem NE (s least : Nat) (S T : Int) (hS : S = s) (hT : T = least) (hs8 : s ≤ 8) (h1 : 1 ≤ least) (g : Nat) (l : List UInt8) (b : Bool) (w0 w : World) (h : RB w0 w g l b) (hb : Below w0.heap.size w0 w) :
    Calls Tryd.prog 101 #[.pointer (some ⟨g, 0, none⟩), .int .i64 S, .int .i64 T] w fun e w' => ∃ (n : Nat) (l' : List UInt8) (b' : Bool), e = .returned (.int .i64 (n : Int)) ∧ RB w0 w' g l' b' ∧ w.grownBy w' (some g) ∧ (l'.length ≤ l.length ∧ n * least ≤ l'.length) ∧ ((b' = false → b = false ∧ many s least l = some (n, l')) ∧ (b' = true → n = 0 ∧ (b = true ∨ many s least l = none))) := by
  cases b with
  | true =>
    refine (oW s least S T hS hT hs8 h1 g l true w0 w h hb (.inl rfl)).mono ?_
    rintro e w1 ⟨rfl, ⟨r, hr, hR⟩, hG⟩
    exact ⟨0, r, true, rfl, hR, hG, ⟨hr, by omega⟩, fun h => (by cases h), fun _ => ⟨rfl, .inl rfl⟩⟩
  | false =>
    refine (zB s least S T hS hT hs8 h1 g l w0 w h hb).mono ?_
    rintro e w1 ⟨n, l', b', rfl, hR, hG, hl, h2, h3⟩
    exact ⟨n, l', b', rfl, hR, hG, hl, fun h => ⟨rfl, h2 h⟩, fun h => ⟨(h3 h).1, .inr (h3 h).2⟩⟩
theorem P6 {r r' r'' : List UInt8} {m n : Nat} (h : number 4 r = some (m, r')) (h1 : number 1 r' = some (n, r'')) : qC r = some (⟨(m : Int), (n : Int)⟩, r'') := by
  unfold qC intP
  rw [h]
  simp only [Option.bind_some]
  rw [h1]
  rfl
theorem zJ (s : Nat) (l : List UInt8) (h : s ≤ l.length) : number s l = some (numB (l.take s), l.drop s) := by unfold number; rw [if_neg (by omega)]
theorem TB : (Tryd.prog.info? 98).map (fun i => (i.zero, i.size, i.bytes)) = some (some (.agg #[.int .i64 0, .int .i64 0]), k98.sz, 16) := by kernel_rfl
theorem UC (w : World) : (Instr.storeAt 98 (.pointer (some ⟨w.heap.size, 0, none⟩)) (.agg #[.int .i64 0, .int .i64 0])).run Tryd.prog (w.alloc (.cells #[.int .i64 0, .int .i64 0] 98)) = .ok () (w.alloc (.cells #[.int .i64 0, .int .i64 0] 98)) :=
  run_storeAt_new (P := Tryd.prog) w _ #[.int .i64 0, .int .i64 0] #[.int .i64 0, .int .i64 0] (by kernel_rfl) rfl (by simp [Value.oneCell'])
theorem IM : (Tryd.prog).built 98 (#[] : Array (Nat × Value)).toList = some #[.int .i64 0, .int .i64 0] := by kernel_rfl
theorem PS (w : World) : (Instr.build 98 #[]).run Tryd.prog w = .ok (.agg #[.int .i64 0, .int .i64 0]) w := run_build w _ _ _ IM
theorem UG {w : World} {b : Nat} {c0 c1 : Value} (i : Nat) (hi : i < 2) (x : Int) (h : w.heap[b]? = some (.cells #[c0, c1] 98 (0, 0))) : (Instr.storeAt 3 (.pointer (some ⟨b, i, none⟩)) (.int .i64 x)).run Tryd.prog w = .ok () (w.setCell ⟨b, i, none⟩ (.int .i64 x)) := by
  have y : w.frozen? ⟨b, i, none⟩ = false := iD h i
  obtain ⟨c, z⟩ : ∃ c, w.cell? ⟨b, i, none⟩ = some c := by
    match i, hi with
    | 0, _ => exact ⟨c0, (iE h 0).trans rfl⟩
    | 1, _ => exact ⟨c1, (iE h 1).trans rfl⟩
  simp [go_sem, z, y]
section
variable {w0 w W W' : World} {g q : Nat} {k i m : Int} {ss ss' : List jV} {A6 B6 : Option Addr} {a6 b6 : Nat} {r : List UInt8} {b : Bool}
theorem lJ.box (h : lJ w0 w W g ⟨k, i, 0, [], [], ⟨m, ss⟩, 0, 0, []⟩ none 0 none 0 A6 a6 none 0 r b) (h0 : w0.heap.size ≤ w.heap.size) (hlt : g < w.heap.size) (hG : W.grownBy W' (some q)) (hq : w.heap.size + 2 ≤ q) (hne : some q ≠ (Value.slice A6 ss.length a6).ownBlock) :
    lJ w0 w W' g ⟨k, i, 0, [], [], ⟨m, ss⟩, 0, 0, []⟩ none 0 none 0 A6 a6 none 0 r b :=
  ⟨(hG.block _ (iZ h.xb) (by intro e; injection e with e; omega)).trans h.xb, (hG.block _ (iZ h.zb) (by intro e; injection e with e; omega)).trans h.zb,
   Kd.R_nil _ _ _ _ _, Kd.R_nil _ _ _ _ _, Kd.R_grown2 h.r6 rfl hG (fun k e => by injection e with e; rw [← e]; exact hne), Kd.R_nil _ _ _ _ _, RB.grown h.rb hG (by intro e; injection e with e; omega), jU h.gr hG (by omega), below_grown h.bl hG (by omega) (Nat.le_refl _)⟩
theorem lJ.app6 (h : lJ w0 w W g ⟨k, i, 0, [], [], ⟨m, ss⟩, 0, 0, []⟩ none 0 none 0 A6 a6 none 0 r b) (h0 : w0.heap.size ≤ w.heap.size) (hlt : g < w.heap.size) (hG : W.grownBy W' (Value.slice A6 ss.length a6).ownBlock)
    (r6 : Kd.R k98 98 W' (w.heap.size + 2) (fun _ => True) (.slice B6 ss'.length b6) ss') :
    W'.heap[w.heap.size + 1]? = some (.cells #[.int .u8 (⟨k, i, 0, [], [], ⟨m, ss⟩, 0, 0, []⟩ : SRec).f0, .int .u32 (⟨k, i, 0, [], [], ⟨m, ss⟩, 0, 0, []⟩ : SRec).f1, .int .u32 (⟨k, i, 0, [], [], ⟨m, ss⟩, 0, 0, []⟩ : SRec).f2, .slice none (⟨k, i, 0, [], [], ⟨m, ss⟩, 0, 0, []⟩ : SRec).f3.length 0, .slice none (⟨k, i, 0, [], [], ⟨m, ss⟩, 0, 0, []⟩ : SRec).f4.length 0, .int .u32 (⟨k, i, 0, [], [], ⟨m, ss⟩, 0, 0, []⟩ : SRec).f5.f0, .slice A6 (⟨k, i, 0, [], [], ⟨m, ss⟩, 0, 0, []⟩ : SRec).f5.f1.length a6, .int .i64 (⟨k, i, 0, [], [], ⟨m, ss⟩, 0, 0, []⟩ : SRec).f6, .int .i64 (⟨k, i, 0, [], [], ⟨m, ss⟩, 0, 0, []⟩ : SRec).f7, .slice none (⟨k, i, 0, [], [], ⟨m, ss⟩, 0, 0, []⟩ : SRec).f8.length 0] 30 (0, 0)) ∧
    lJ w0 w (W'.setRow (w.heap.size + 1) #[.int .u8 (⟨k, i, 0, [], [], ⟨m, ss'⟩, 0, 0, []⟩ : SRec).f0, .int .u32 (⟨k, i, 0, [], [], ⟨m, ss'⟩, 0, 0, []⟩ : SRec).f1, .int .u32 (⟨k, i, 0, [], [], ⟨m, ss'⟩, 0, 0, []⟩ : SRec).f2, .slice none (⟨k, i, 0, [], [], ⟨m, ss'⟩, 0, 0, []⟩ : SRec).f3.length 0, .slice none (⟨k, i, 0, [], [], ⟨m, ss'⟩, 0, 0, []⟩ : SRec).f4.length 0, .int .u32 (⟨k, i, 0, [], [], ⟨m, ss'⟩, 0, 0, []⟩ : SRec).f5.f0, .slice B6 (⟨k, i, 0, [], [], ⟨m, ss'⟩, 0, 0, []⟩ : SRec).f5.f1.length b6, .int .i64 (⟨k, i, 0, [], [], ⟨m, ss'⟩, 0, 0, []⟩ : SRec).f6, .int .i64 (⟨k, i, 0, [], [], ⟨m, ss'⟩, 0, 0, []⟩ : SRec).f7, .slice none (⟨k, i, 0, [], [], ⟨m, ss'⟩, 0, 0, []⟩ : SRec).f8.length 0]) g ⟨k, i, 0, [], [], ⟨m, ss'⟩, 0, 0, []⟩ none 0 none 0 B6 b6 none 0 r b := by
  have hrow := fun b e => Kd.R_base h.r6 b e
  have hx : W'.heap[w.heap.size + 1]? = _ := (hG.block _ (iZ h.xb) (by intro e; have := hrow _ e.symm; omega)).trans h.xb
  have hz : W'.heap[w.heap.size]? = _ := (hG.block _ (iZ h.zb) (by intro e; have := hrow _ e.symm; omega)).trans h.zb
  have hg2 := jH W' (w.heap.size + 1) #[.int .u8 (⟨k, i, 0, [], [], ⟨m, ss'⟩, 0, 0, []⟩ : SRec).f0, .int .u32 (⟨k, i, 0, [], [], ⟨m, ss'⟩, 0, 0, []⟩ : SRec).f1, .int .u32 (⟨k, i, 0, [], [], ⟨m, ss'⟩, 0, 0, []⟩ : SRec).f2, .slice none (⟨k, i, 0, [], [], ⟨m, ss'⟩, 0, 0, []⟩ : SRec).f3.length 0, .slice none (⟨k, i, 0, [], [], ⟨m, ss'⟩, 0, 0, []⟩ : SRec).f4.length 0, .int .u32 (⟨k, i, 0, [], [], ⟨m, ss'⟩, 0, 0, []⟩ : SRec).f5.f0, .slice B6 (⟨k, i, 0, [], [], ⟨m, ss'⟩, 0, 0, []⟩ : SRec).f5.f1.length b6, .int .i64 (⟨k, i, 0, [], [], ⟨m, ss'⟩, 0, 0, []⟩ : SRec).f6, .int .i64 (⟨k, i, 0, [], [], ⟨m, ss'⟩, 0, 0, []⟩ : SRec).f7, .slice none (⟨k, i, 0, [], [], ⟨m, ss'⟩, 0, 0, []⟩ : SRec).f8.length 0]
  have hr : RB w0 W' g r b := RB.grown h.rb hG (by intro e; have := hrow _ e.symm; omega)
  have hgr : w.grownBy W' (some g) := oM h.gr hG (fun b e => by have := hrow b e; omega)
  have hbl : Below w0.heap.size w0 W' := by
    refine ⟨hG.os.trans h.bl.os, hG.tape.trans h.bl.tape, hG.output.trans h.bl.output, Nat.le_trans h.bl.size hG.size, fun k hk => (hG.block k (Nat.lt_of_lt_of_le hk h.bl.size) (fun e => by have := hrow k e.symm; omega)).trans (h.bl.block k hk)⟩
  exact ⟨hx, setRow_heap _ _ _ _ _ _ hx, (setRow_other W' (w.heap.size + 1) (w.heap.size) _ (by omega)).trans hz, Kd.R_nil _ _ _ _ _, Kd.R_nil _ _ _ _ _, jM r6 hg2 (by omega), Kd.R_nil _ _ _ _ _,
    RB.grown hr hg2 (by intro e; injection e with e; omega), jU hgr hg2 (Nat.le_succ _), below_grown hbl hg2 (by omega) (Nat.le_refl _)⟩
theorem lJ.apart (h : lJ w0 w W g ⟨k, i, 0, [], [], ⟨m, ss⟩, 0, 0, []⟩ none 0 none 0 A6 a6 none 0 r b) : some W.heap.size ≠ (Value.slice A6 ss.length a6).ownBlock :=
  fun e => ((Kd.R_elderB h.r6 W.heap.size (Nat.le_refl _)).1 _ e.symm).2 rfl
end
end Go.Proofs.YtgfkgppomaapiaaDoor.K
end

section
namespace Go.Proofs.YtgfkgppomaapiaaDoor.K
open RowKit YtgfkgppomaapiaaDoorW.PrintWords YtgfkgppomaapiaaDoorW.PrintLast YtgfkgppomaapiaaDoorW.PrintMore My
theorem kT {s : Nat} {l r : List UInt8} {m : Nat} (h : number s l = some (m, r)) : intP s l = some ((m : Int), r) := by unfold intP; rw [h]; rfl
theorem lS {s : Nat} {l : List UInt8} (h : number s l = none) : intP s l = none := by unfold intP; rw [h]; rfl
attribute [-go_sem] Instr.build Instr.storeAt
attribute [local go_sem] LD PS UC
set_option maxRecDepth 20000 in
set_option maxHeartbeats 16000000 in
theorem QB (g : Nat) (l : List UInt8) (w0 w : World) (h : RB w0 w g l false) (hb : Below w0.heap.size w0 w) (hg : w0.heap.size ≤ g) (hm : (l.length : Int) ≤ 100000) :
    Calls Tryd.prog 79 #[.pointer (some ⟨g, 0, none⟩)] w (RV l w0 w g) := by
  have hlt := h.lt
  have h00 : w0.heap.size ≤ w.heap.size := hb.size
  have h0s := lJ.start h hb hg
  have hst0 := fun (_ : True) => mG (a := 0) (k := 0) (i := 0) (x3 := .slice none 0 0) (x4 := .slice none 0 0) (j := 0) (x6 := .slice none 0 0) (p := 0) (q := 0) (x9 := .slice none 0 0) h0s.xb rfl rfl rfl rfl
  have H1 := iC.mk (h0s.set (x' := ⟨0, 0, 0, [], [], ⟨0, []⟩, 0, 0, []⟩) h00 hlt h0s.r3 h0s.r4 h0s.r6 h0s.r9)
  clear h hb h0s
  go_enter Tryd.func79, Tryd.ntmps79
  go_upto_region 2 with fail
  obtain ⟨W1, hW1⟩ : ∃ W1, W1 = ((w.alloc (.cells #[.int .u8 0, .int .u32 0, .int .u32 0, .slice none 0 0, .slice none 0 0, .int .u32 0, .slice none 0 0, .int .i64 0, .int .i64 0, .slice none 0 0] 30)).alloc (.cells #[.int .u8 0, .int .u32 0, .int .u32 0, .slice none 0 0, .slice none 0 0, .int .u32 0, .slice none 0 0, .int .i64 0, .int .i64 0, .slice none 0 0] 30)).setRow (w.heap.size + 1) #[.int .u8 0, .int .u32 0, .int .u32 0, .slice none 0 0, .slice none 0 0, .int .u32 0, .slice none 0 0, .int .i64 0, .int .i64 0, .slice none 0 0] := ⟨_, rfl⟩
  have H1 := iC.mk (show lJ w0 w W1 g ⟨0, 0, 0, [], [], ⟨0, []⟩, 0, 0, []⟩ none 0 none 0 none 0 none 0 l false from by rw [hW1]; exact H1.out)
  rw [← hW1]
  clear hW1 hst0
  have hcall := get_any 1 1 rfl (by omega) g l false w0 W1 H1.out.rb H1.out.bl
  go_wp2_with fail
  go_at_call 98
  refine hcall.mono ?_
  rintro e w2 ⟨m1, r1, b1, rfl, hR, hG, hlen, hst⟩
  have H2 := iC.mk (H1.out.step hg hlt hG hR)
  have hm1 : (m1 : Int) < 256 := by have h8 := hlen.2; omega
  have hw1 : IntKind.u8.wrap (m1 : Int) = (m1 : Int) := by rw [show IntKind.u8.wrap (m1 : Int) = (m1 : Int) % 256 by simp [IntKind.wrap, IntKind.bits, IntKind.signed]]; omega
  have HL1 := iC.mk hlen.1
  have HS1 := iC.mk hst
  have hst1 := fun (_ : True) => UQ (m1 : Int) H2.out.xb
  have H3 := iC.mk (H2.out.set (x' := ⟨(m1 : Int), 0, 0, [], [], ⟨0, []⟩, 0, 0, []⟩) h00 hlt H2.out.r3 H2.out.r4 H2.out.r6 H2.out.r9)
  clear hcall hR hG hlen hst H1
  go_upto_region 3 with fail
  obtain ⟨W3, hW3⟩ : ∃ W3, W3 = w2.setRow (w.heap.size + 1) #[.int .u8 (m1 : Int), .int .u32 0, .int .u32 0, .slice none 0 0, .slice none 0 0, .int .u32 0, .slice none 0 0, .int .i64 0, .int .i64 0, .slice none 0 0] := ⟨_, rfl⟩
  have H3 := iC.mk (show lJ w0 w W3 g ⟨(m1 : Int), 0, 0, [], [], ⟨0, []⟩, 0, 0, []⟩ none 0 none 0 none 0 none 0 r1 b1 from by rw [hW3]; exact H3.out)
  rw [← hW3]
  clear hW3 hst1 hw1 H2
  have hcall := get_any 4 4 rfl (by omega) g r1 b1 w0 W3 H3.out.rb H3.out.bl
  go_wp2_with fail
  go_at_call 98
  refine hcall.mono ?_
  rintro e w4 ⟨m2, r2, b2, rfl, hR, hG, hlen, hst⟩
  have H4 := iC.mk (H3.out.step hg hlt hG hR)
  have hm2 : (m2 : Int) < 4294967296 := by have h8 := hlen.2; rw [show (256 : Nat) ^ 4 = 4294967296 from by decide] at h8; omega
  have hw2 : IntKind.u32.wrap (m2 : Int) = (m2 : Int) := by rw [show IntKind.u32.wrap (m2 : Int) = (m2 : Int) % 4294967296 by simp [IntKind.wrap, IntKind.bits, IntKind.signed]]; omega
  have HL2 := iC.mk hlen.1
  have HS2 := iC.mk hst
  have hst2 := fun (_ : True) => UW (m2 : Int) H4.out.xb
  have H5 := iC.mk (H4.out.set (x' := ⟨(m1 : Int), (m2 : Int), 0, [], [], ⟨0, []⟩, 0, 0, []⟩) h00 hlt H4.out.r3 H4.out.r4 H4.out.r6 H4.out.r9)
  clear hcall hR hG hlen hst H3
  go_upto_region 4 with fail
  obtain ⟨W5, hW5⟩ : ∃ W5, W5 = w4.setRow (w.heap.size + 1) #[.int .u8 (m1 : Int), .int .u32 (m2 : Int), .int .u32 0, .slice none 0 0, .slice none 0 0, .int .u32 0, .slice none 0 0, .int .i64 0, .int .i64 0, .slice none 0 0] := ⟨_, rfl⟩
  have H5 := iC.mk (show lJ w0 w W5 g ⟨(m1 : Int), (m2 : Int), 0, [], [], ⟨0, []⟩, 0, 0, []⟩ none 0 none 0 none 0 none 0 r2 b2 from by rw [hW5]; exact H5.out)
  rw [← hW5]
  clear hW5 hst2 hw2 H4
  have HST := iC.mk (show (b2 = false → recP l = nO (m1 : Int) (m2 : Int) r2) ∧ (b2 = true → recP l = none) from by
    refine ⟨fun e => ?_, fun e => ?_⟩
    · obtain ⟨e1, e2⟩ := HS2.out.1 e
      exact I5 (kT (HS1.out.1 e1).2) (kT e2)
    · rcases HS2.out.2 e with e1 | e1
      · rcases HS1.out.2 e1 with e2 | e2
        · cases e2
        · exact rF (lS e2)
      · cases b1 with
        | true =>
          rcases HS1.out.2 rfl with e2 | e2
          · cases e2
          · exact rF (lS e2)
        | false => exact xQ (kT (HS1.out.1 rfl).2) (lS e1))
  have HR2 := iC.mk (show r2.length ≤ l.length from Nat.le_trans HL2.out HL1.out)
  clear HS1 HS2 HL1 HL2
  obtain ⟨xz0, xz1, xz2, xz3, xz4, xz5, xz6, xz7, xz8, xz9, xy0, xy1, xy2, xy3, xy4, xy5, xy6, xy7, xy8, xy9⟩ := ten H5.out.xb
  by_cases h1 : (m1 : Int) = 1
  · obtain rfl : m1 = 1 := by omega
    clear xy0 xy1 xy2 xy3 xy4 xy5 xy6 xy7 xy8 xy9 hm1 hm2 h1
    go_upto_region 5 with fail
    go_upto_region 6 with fail
    have hcall := xR g r2 b2 w0 W5 H5.out.rb H5.out.bl hg (by have := HR2.out; omega)
    go_wp2_with fail
    go_at_call 99
    refine hcall.mono ?_
    rintro e w6 hq
    obtain ⟨hG, ns, v, r3, b3, rfl, hv, hR, hlen, hst⟩ := RP.split hq
    have hv : Kd.R (Kd.int .i64) 3 w6 W5.heap.size (fun _ => True) v ns := hv
    obtain ⟨A3, a3, rfl⟩ := Kd.R_slice hv
    have H6 := iC.mk (H5.out.step hg hlt hG hR)
    have hst6 := fun (_ : True) => st_3 A3 ns.length a3 H6.out.xb
    have H7 := iC.mk (H6.out.set (x' := ⟨1, (m2 : Int), 0, ns, [], ⟨0, []⟩, 0, 0, []⟩) h00 hlt (Kd.R_lower hv H5.out.size) H6.out.r4 H6.out.r6 H6.out.r9)
    have HR3 := iC.mk (show r3.length ≤ l.length from Nat.le_trans hlen HR2.out)
    have HS3 := iC.mk hst
    clear hcall hq hG hv hR hlen hst xz0 xz1 xz2 xz3 xz4 xz5 xz6 xz7 xz8 xz9
    go_upto_region 7 with fail
    obtain ⟨W7, hW7⟩ : ∃ W7, W7 = w6.setRow (w.heap.size + 1) #[.int .u8 1, .int .u32 (m2 : Int), .int .u32 0, .slice A3 ns.length a3, .slice none 0 0, .int .u32 0, .slice none 0 0, .int .i64 0, .int .i64 0, .slice none 0 0] := ⟨_, rfl⟩
    have H7 := iC.mk (show lJ w0 w W7 g ⟨1, (m2 : Int), 0, ns, [], ⟨0, []⟩, 0, 0, []⟩ A3 a3 none 0 none 0 none 0 r3 b3 from by rw [hW7]; exact H7.out)
    rw [← hW7]
    clear hW7 hst6 H6
    have hcall := xZ g r3 b3 w0 W7 H7.out.rb H7.out.bl hg (by have := HR3.out; omega)
    go_wp2_with fail
    go_at_call 100
    refine hcall.mono ?_
    rintro e w8 hq
    obtain ⟨hG, fs, v, r4, b4, rfl, hv, hR, hlen, hst⟩ := RP.split hq
    have hv : Kd.R k139 139 w8 W7.heap.size (fun _ => True) v fs := hv
    obtain ⟨A4, a4, rfl⟩ := Kd.R_slice hv
    have H8 := iC.mk (H7.out.step hg hlt hG hR)
    have hst8 := fun (_ : True) => st_4 A4 fs.length a4 H8.out.xb
    have H9 := iC.mk (H8.out.set (x' := ⟨1, (m2 : Int), 0, ns, fs, ⟨0, []⟩, 0, 0, []⟩) h00 hlt H8.out.r3 (Kd.R_lower hv H7.out.size) H8.out.r6 H8.out.r9)
    have HS4 := iC.mk hst
    clear hcall hq hG hv hR hlen hst
    go_upto_region 25 with fail
    obtain ⟨W9, hW9⟩ : ∃ W9, W9 = w8.setRow (w.heap.size + 1) #[.int .u8 1, .int .u32 (m2 : Int), .int .u32 0, .slice A3 ns.length a3, .slice A4 fs.length a4, .int .u32 0, .slice none 0 0, .int .i64 0, .int .i64 0, .slice none 0 0] := ⟨_, rfl⟩
    have H9 := iC.mk (show lJ w0 w W9 g ⟨1, (m2 : Int), 0, ns, fs, ⟨0, []⟩, 0, 0, []⟩ A3 a3 A4 a4 none 0 none 0 r4 b4 from by rw [hW9]; exact H9.out)
    rw [← hW9]
    clear hW9 hst8 H8
    obtain ⟨wz0, wz1, wz2, wz3, wz4, wz5, wz6, wz7, wz8, wz9, wy0, wy1, wy2, wy3, wy4, wy5, wy6, wy7, wy8, wy9⟩ := ten (H9.out.xb)
    clear wy0 wy1 wy2 wy3 wy4 wy5 wy6 wy7 wy8 wy9
    have hstz := fun (_ : True) => mG (a := 1) (k := (m2 : Int)) (i := 0) (x3 := .slice A3 ns.length a3) (x4 := .slice A4 fs.length a4) (j := 0) (x6 := .slice none 0 0) (p := 0) (q := 0) (x9 := .slice none 0 0) H9.out.zb rfl rfl rfl rfl
    go_wp2
    ((try simp only [Exit.inBlock, Exit.then]); refine bodyPost_ret (qL rfl rfl (setRow_heap _ _ _ _ _ _ H9.out.zb) rfl) rfl ?_)
    obtain ⟨hl, hr, hgr⟩ := H9.out.fin hlt #[.int .u8 (⟨1, (m2 : Int), 0, ns, fs, ⟨0, []⟩, 0, 0, []⟩ : SRec).f0, .int .u32 (⟨1, (m2 : Int), 0, ns, fs, ⟨0, []⟩, 0, 0, []⟩ : SRec).f1, .int .u32 (⟨1, (m2 : Int), 0, ns, fs, ⟨0, []⟩, 0, 0, []⟩ : SRec).f2, .slice A3 (⟨1, (m2 : Int), 0, ns, fs, ⟨0, []⟩, 0, 0, []⟩ : SRec).f3.length a3, .slice A4 (⟨1, (m2 : Int), 0, ns, fs, ⟨0, []⟩, 0, 0, []⟩ : SRec).f4.length a4, .int .u32 (⟨1, (m2 : Int), 0, ns, fs, ⟨0, []⟩, 0, 0, []⟩ : SRec).f5.f0, .slice none (⟨1, (m2 : Int), 0, ns, fs, ⟨0, []⟩, 0, 0, []⟩ : SRec).f5.f1.length 0, .int .i64 (⟨1, (m2 : Int), 0, ns, fs, ⟨0, []⟩, 0, 0, []⟩ : SRec).f6, .int .i64 (⟨1, (m2 : Int), 0, ns, fs, ⟨0, []⟩, 0, 0, []⟩ : SRec).f7, .slice none (⟨1, (m2 : Int), 0, ns, fs, ⟨0, []⟩, 0, 0, []⟩ : SRec).f8.length 0]
    refine ⟨⟨1, (m2 : Int), 0, ns, fs, ⟨0, []⟩, 0, 0, []⟩, A3, a3, A4, a4, none, 0, none, 0, r4, b4, rfl, hl, hr, hgr, fun e => ?_, fun e => ?_⟩
    · obtain ⟨e1, e2⟩ := HS4.out.1 e
      obtain ⟨e3, e4⟩ := HS3.out.1 e1
      rw [HST.out.1 e3]
      unfold nO
      rw [if_pos (by rfl), e4]
      simp only [Option.bind_some]
      rw [e2]
      rfl
    · cases b2 with
      | true => exact HST.out.2 rfl
      | false =>
        rw [HST.out.1 rfl]
        unfold nO
        rw [if_pos (by rfl)]
        cases b3 with
        | true =>
          rcases HS3.out.2 rfl with e1 | e1
          · cases e1
          · rw [e1]; rfl
        | false =>
          rw [(HS3.out.1 rfl).2]
          simp only [Option.bind_some]
          rcases HS4.out.2 e with e1 | e1
          · cases e1
          · rw [e1]; rfl
  by_cases h2 : (m1 : Int) = 2
  · obtain rfl : m1 = 2 := by omega
    clear xy0 xy1 xy2 xy3 xy4 xy5 xy6 xy7 xy8 xy9 hm1 hm2 h1 h2
    go_upto_region 5 with fail
    go_upto_region 8 with fail
    go_upto_region 9 with fail
    have hcall := get_any 4 4 rfl (by omega) g r2 b2 w0 W5 H5.out.rb H5.out.bl
    go_wp2_with fail
    go_at_call 98
    refine hcall.mono ?_
    rintro e w6 ⟨m3, r3, b3, rfl, hR, hG, hlen, hst⟩
    have H6 := iC.mk (H5.out.step hg hlt hG hR)
    have hm3 : (m3 : Int) < 4294967296 := by have h8 := hlen.2; rw [show (256 : Nat) ^ 4 = 4294967296 from by decide] at h8; omega
    have hw3 : IntKind.u32.wrap (m3 : Int) = (m3 : Int) := by rw [show IntKind.u32.wrap (m3 : Int) = (m3 : Int) % 4294967296 by simp [IntKind.wrap, IntKind.bits, IntKind.signed]]; omega
    have hst6 := fun (_ : True) => st_2 (m3 : Int) H6.out.xb
    have H7 := iC.mk (H6.out.set (x' := ⟨2, (m2 : Int), (m3 : Int), [], [], ⟨0, []⟩, 0, 0, []⟩) h00 hlt H6.out.r3 H6.out.r4 H6.out.r6 H6.out.r9)
    have HR3 := iC.mk (show r3.length ≤ l.length from Nat.le_trans hlen.1 HR2.out)
    have HS3 := iC.mk hst
    clear hcall hG hR hlen hst xz0 xz1 xz2 xz3 xz4 xz5 xz6 xz7 xz8 xz9
    go_upto_region 10 with fail
    obtain ⟨W7, hW7⟩ : ∃ W7, W7 = w6.setRow (w.heap.size + 1) #[.int .u8 2, .int .u32 (m2 : Int), .int .u32 (m3 : Int), .slice none 0 0, .slice none 0 0, .int .u32 0, .slice none 0 0, .int .i64 0, .int .i64 0, .slice none 0 0] := ⟨_, rfl⟩
    have H7 := iC.mk (show lJ w0 w W7 g ⟨2, (m2 : Int), (m3 : Int), [], [], ⟨0, []⟩, 0, 0, []⟩ none 0 none 0 none 0 none 0 r3 b3 from by rw [hW7]; exact H7.out)
    rw [← hW7]
    clear hW7 hst6 H6 hw3 hm3
    have hcall := xR g r3 b3 w0 W7 H7.out.rb H7.out.bl hg (by have := HR3.out; omega)
    go_wp2_with fail
    go_at_call 99
    refine hcall.mono ?_
    rintro e w8 hq
    obtain ⟨hG, ns, v, r4, b4, rfl, hv, hR, hlen, hst⟩ := RP.split hq
    have hv : Kd.R (Kd.int .i64) 3 w8 W7.heap.size (fun _ => True) v ns := hv
    obtain ⟨A3, a3, rfl⟩ := Kd.R_slice hv
    have H8 := iC.mk (H7.out.step hg hlt hG hR)
    have hst8 := fun (_ : True) => st_3 A3 ns.length a3 H8.out.xb
    have H9 := iC.mk (H8.out.set (x' := ⟨2, (m2 : Int), (m3 : Int), ns, [], ⟨0, []⟩, 0, 0, []⟩) h00 hlt (Kd.R_lower hv H7.out.size) H8.out.r4 H8.out.r6 H8.out.r9)
    have HS4 := iC.mk hst
    clear hcall hq hG hv hR hlen hst
    go_upto_region 25 with fail
    obtain ⟨W9, hW9⟩ : ∃ W9, W9 = w8.setRow (w.heap.size + 1) #[.int .u8 2, .int .u32 (m2 : Int), .int .u32 (m3 : Int), .slice A3 ns.length a3, .slice none 0 0, .int .u32 0, .slice none 0 0, .int .i64 0, .int .i64 0, .slice none 0 0] := ⟨_, rfl⟩
    have H9 := iC.mk (show lJ w0 w W9 g ⟨2, (m2 : Int), (m3 : Int), ns, [], ⟨0, []⟩, 0, 0, []⟩ A3 a3 none 0 none 0 none 0 r4 b4 from by rw [hW9]; exact H9.out)
    rw [← hW9]
    clear hW9 hst8 H8
    obtain ⟨wz0, wz1, wz2, wz3, wz4, wz5, wz6, wz7, wz8, wz9, wy0, wy1, wy2, wy3, wy4, wy5, wy6, wy7, wy8, wy9⟩ := ten (H9.out.xb)
    clear wy0 wy1 wy2 wy3 wy4 wy5 wy6 wy7 wy8 wy9
    have hstz := fun (_ : True) => mG (a := 2) (k := (m2 : Int)) (i := (m3 : Int)) (x3 := .slice A3 ns.length a3) (x4 := .slice none 0 0) (j := 0) (x6 := .slice none 0 0) (p := 0) (q := 0) (x9 := .slice none 0 0) H9.out.zb rfl rfl rfl rfl
    go_wp2
    ((try simp only [Exit.inBlock, Exit.then]); refine bodyPost_ret (qL rfl rfl (setRow_heap _ _ _ _ _ _ H9.out.zb) rfl) rfl ?_)
    obtain ⟨hl, hr, hgr⟩ := H9.out.fin hlt #[.int .u8 (⟨2, (m2 : Int), (m3 : Int), ns, [], ⟨0, []⟩, 0, 0, []⟩ : SRec).f0, .int .u32 (⟨2, (m2 : Int), (m3 : Int), ns, [], ⟨0, []⟩, 0, 0, []⟩ : SRec).f1, .int .u32 (⟨2, (m2 : Int), (m3 : Int), ns, [], ⟨0, []⟩, 0, 0, []⟩ : SRec).f2, .slice A3 (⟨2, (m2 : Int), (m3 : Int), ns, [], ⟨0, []⟩, 0, 0, []⟩ : SRec).f3.length a3, .slice none (⟨2, (m2 : Int), (m3 : Int), ns, [], ⟨0, []⟩, 0, 0, []⟩ : SRec).f4.length 0, .int .u32 (⟨2, (m2 : Int), (m3 : Int), ns, [], ⟨0, []⟩, 0, 0, []⟩ : SRec).f5.f0, .slice none (⟨2, (m2 : Int), (m3 : Int), ns, [], ⟨0, []⟩, 0, 0, []⟩ : SRec).f5.f1.length 0, .int .i64 (⟨2, (m2 : Int), (m3 : Int), ns, [], ⟨0, []⟩, 0, 0, []⟩ : SRec).f6, .int .i64 (⟨2, (m2 : Int), (m3 : Int), ns, [], ⟨0, []⟩, 0, 0, []⟩ : SRec).f7, .slice none (⟨2, (m2 : Int), (m3 : Int), ns, [], ⟨0, []⟩, 0, 0, []⟩ : SRec).f8.length 0]
    refine ⟨⟨2, (m2 : Int), (m3 : Int), ns, [], ⟨0, []⟩, 0, 0, []⟩, A3, a3, none, 0, none, 0, none, 0, r4, b4, rfl, hl, hr, hgr, fun e => ?_, fun e => ?_⟩
    · obtain ⟨e1, e2⟩ := HS4.out.1 e
      obtain ⟨e3, e4⟩ := HS3.out.1 e1
      rw [HST.out.1 e3]
      unfold nO
      rw [if_neg (by decide), if_pos (by rfl), kT e4]
      simp only [Option.bind_some]
      rw [e2]
      rfl
    · cases b2 with
      | true => exact HST.out.2 rfl
      | false =>
        rw [HST.out.1 rfl]
        unfold nO
        rw [if_neg (by decide), if_pos (by rfl)]
        cases b3 with
        | true =>
          rcases HS3.out.2 rfl with e1 | e1
          · cases e1
          · rw [lS e1]; rfl
        | false =>
          rw [kT (HS3.out.1 rfl).2]
          simp only [Option.bind_some]
          rcases HS4.out.2 e with e1 | e1
          · cases e1
          · rw [e1]; rfl
  by_cases h6 : (m1 : Int) = 6
  · obtain rfl : m1 = 6 := by omega
    clear xy0 xy1 xy2 xy3 xy4 xy5 xy6 xy7 xy8 xy9 hm1 hm2 h1 h2 h6
    go_upto_region 5 with fail
    go_upto_region 8 with fail
    go_upto_region 11 with fail
    go_upto_region 12 with fail
    have hcall := get_any 4 4 rfl (by omega) g r2 b2 w0 W5 H5.out.rb H5.out.bl
    go_wp2_with fail
    go_at_call 98
    refine hcall.mono ?_
    rintro e w6 ⟨m3, r3, b3, rfl, hR, hG, hlen, hst⟩
    have H6 := iC.mk (H5.out.step hg hlt hG hR)
    have hm3 : (m3 : Int) < 4294967296 := by have h8 := hlen.2; rw [show (256 : Nat) ^ 4 = 4294967296 from by decide] at h8; omega
    have hw3 : IntKind.u32.wrap (m3 : Int) = (m3 : Int) := by rw [show IntKind.u32.wrap (m3 : Int) = (m3 : Int) % 4294967296 by simp [IntKind.wrap, IntKind.bits, IntKind.signed]]; omega
    have hst6 := fun (_ : True) => st_5 (m3 : Int) H6.out.xb
    have H7 := iC.mk (H6.out.set (x' := ⟨6, (m2 : Int), 0, [], [], ⟨(m3 : Int), []⟩, 0, 0, []⟩) h00 hlt H6.out.r3 H6.out.r4 H6.out.r6 H6.out.r9)
    have HR3 := iC.mk (show r3.length ≤ l.length from Nat.le_trans hlen.1 HR2.out)
    have HS3 := iC.mk hst
    clear hcall hG hR hlen hst xz0 xz1 xz2 xz3 xz4 xz5 xz6 xz7 xz8 xz9
    go_upto_region 13 with fail
    obtain ⟨W7, hW7⟩ : ∃ W7, W7 = w6.setRow (w.heap.size + 1) #[.int .u8 6, .int .u32 (m2 : Int), .int .u32 0, .slice none 0 0, .slice none 0 0, .int .u32 (m3 : Int), .slice none 0 0, .int .i64 0, .int .i64 0, .slice none 0 0] := ⟨_, rfl⟩
    have H7 := iC.mk (show lJ w0 w W7 g ⟨6, (m2 : Int), 0, [], [], ⟨(m3 : Int), []⟩, 0, 0, []⟩ none 0 none 0 none 0 none 0 r3 b3 from by rw [hW7]; exact H7.out)
    rw [← hW7]
    clear hW7 hst6 H6 hw3 hm3
    have hcall := NE 1 5 1 5 rfl rfl (by omega) (by omega) g r3 b3 w0 W7 H7.out.rb H7.out.bl
    go_wp2_with fail
    go_at_call 101
    refine hcall.mono ?_
    rintro e w8 ⟨n, r4, b4, rfl, hR, hG, hlen, hst⟩
    have H8 := iC.mk (H7.out.step hg hlt hG hR)
    have HR4 := iC.mk (show r4.length ≤ l.length from Nat.le_trans hlen.1 HR3.out)
    have HL4 := iC.mk hlen.2
    have HS4 := iC.mk hst
    have hnI : (n : Int) ≤ 100000 := by have := HR4.out; have := hlen.2; omega
    clear hcall hR hG hlen hst
    go_wp2
    go_loopw [5] (fun iv wi => ∃ (k : Nat) (ss : List jV) (r : List UInt8) (A6 : Option Addr) (a6 : Nat), k ≤ n ∧ iv = .int .i64 k ∧ iC (r.length ≤ r4.length ∧ ss.length = k) ∧ iC (b4 = false → Left qC n k r4 r ss ∧ (n - k) * 5 ≤ r.length) ∧ iC (lJ w0 w wi g ⟨6, (m2 : Int), 0, [], [], ⟨(m3 : Int), ss⟩, 0, 0, []⟩ none 0 none 0 A6 a6 none 0 r b4)) (fun i _ => n - (intOf i).toNat)
    case atStart => exact ⟨0, [], r4, none, 0, Nat.zero_le _, rfl, ⟨Nat.le_refl _, rfl⟩, ⟨fun _ => ⟨Left.start _ _ _, by have := HL4.out; omega⟩⟩, H8⟩
    case round =>
      obtain ⟨k, ss, r, A6, a6, hk, rfl, HLK, HSK, HH⟩ := hrel
      clear H8 H7
      obtain ⟨wr0, rfl⟩ : ∃ x : World, x = wr := ⟨_, rfl⟩
      by_cases hkn : k < n
      · have hb4 : b4 = false := by
          cases b4 with
          | false => rfl
          | true => have := (HS4.out.2 rfl).1; omega
        subst hb4
        have hl5 : 5 ≤ r.length := by have := (HSK.out rfl).2; omega
        have hn4 := zJ 4 r (by omega)
        have hn1 := zJ 1 (r.drop 4) (by rw [List.length_drop]; omega)
        have hs4 := lX r 4 (by omega)
        have hs1 := lX (r.drop 4) 1 (by omega)
        have hd1 : 1 ≤ (r.drop 4).length := by rw [List.length_drop]; omega
        have hdl : ((r.drop 4).drop 1).length + 5 = r.length := by rw [List.length_drop, List.length_drop]; omega
        have hsp := P6 hn4 hn1
        have hcall := fun W hRB hbl => vG 4 4 rfl (by omega) g r w0 W hRB hbl (by omega)
        have hcall2 := fun W hRB hbl => vG 1 1 rfl (by omega) g (r.drop 4) w0 W hRB hbl hd1
        have HSN := iC.mk (fun (h : (false : Bool) = false) => (⟨Left.next (HSK.out h).1 hkn hsp, by have := (HSK.out h).2; omega⟩ : Left qC n (k + 1) r4 ((r.drop 4).drop 1) (ss ++ [⟨((numB (r.take 4) : Nat) : Int), ((numB ((r.drop 4).take 1) : Nat) : Int)⟩]) ∧ (n - (k + 1)) * 5 ≤ ((r.drop 4).drop 1).length))
        have HRN := iC.mk (show ((r.drop 4).drop 1).length ≤ r4.length from by have := HLK.out.1; omega)
        clear hn4 hn1 hsp hdl hd1
        obtain ⟨x4, hx4⟩ : ∃ x, x = numB (r.take 4) := ⟨_, rfl⟩
        obtain ⟨x5, hx5⟩ : ∃ x, x = numB ((r.drop 4).take 1) := ⟨_, rfl⟩
        obtain ⟨rb, hrb⟩ : ∃ x, x = (r.drop 4).drop 1 := ⟨_, rfl⟩
        rw [← hx4] at hs4 hcall HSN
        rw [← hx5] at hs1 hcall2 HSN
        rw [← hrb] at hcall2 HSN HRN
        obtain ⟨ra, hra⟩ : ∃ x, x = r.drop 4 := ⟨_, rfl⟩
        rw [← hra] at hcall hcall2
        clear hx4 hx5 hra hrb hl5
        have hw4 := pY x4 (by omega)
        have hw5 := pY x5 (by omega)
        obtain ⟨W1, hW1⟩ : ∃ W1, W1 = wr0.alloc (.cells #[.int .i64 0, .int .i64 0] 98) := ⟨_, rfl⟩
        have hba : Below wr0.heap.size wr0 W1 := by rw [hW1]; exact iF (Below.refl _ _) _
        have B1 := iC.mk (show W1.heap[wr0.heap.size]? = some (.cells #[.int .i64 0, .int .i64 0] 98 (0, 0)) from by rw [hW1]; exact iT rfl)
        have G1 := iC.mk (HH.out.step hg hlt (grown_below hba) (RB.grown HH.out.rb (grown_below (row := none) hba) (by simp)))
        have HNE := iC.mk HH.out.apart
        have HSZ := iC.mk HH.out.size
        have HW1 := iC.mk hW1
        have hcall := hcall W1 G1.out.rb G1.out.bl
        clear hba hW1 HH
        go_wp2_with fail
        rw [← HW1.out]
        clear HW1
        go_at_call 98
        refine hcall.mono ?_
        rintro e w2 ⟨rfl, hR, hG⟩
        have B2 := iC.mk ((hG.block wr0.heap.size (iZ B1.out) (by intro e; injection e with e; have := HSZ.out; omega)).trans B1.out)
        have G2 := iC.mk (G1.out.step hg hlt hG hR)
        have hsp := fun (_ : True) => UG 0 (by omega) (x4 : Int) B2.out
        have B3 := iC.mk (show (w2.setCell ⟨wr0.heap.size, 0, none⟩ (.int .i64 (x4 : Int))).heap[wr0.heap.size]? = some (.cells #[.int .i64 (x4 : Int), .int .i64 0] 98 (0, 0)) from lZ B2.out 0 _ rfl)
        have G3 := iC.mk (G2.out.box h00 hlt (kF w2 wr0.heap.size 0 (.int .i64 (x4 : Int))) HSZ.out HNE.out)
        clear hcall hR hG G1 B1
        go_upto_region 19 with fail
        obtain ⟨w3, hw3⟩ : ∃ w3, w3 = w2.setCell ⟨wr0.heap.size, 0, none⟩ (.int .i64 (x4 : Int)) := ⟨_, rfl⟩
        rw [← hw3] at B3 G3 ⊢
        clear hw3 hsp B2 G2 hw4
        have hcall := hcall2 w3 G3.out.rb G3.out.bl
        clear hcall2
        go_wp2_with fail
        go_at_call 98
        refine hcall.mono ?_
        rintro e w4 ⟨rfl, hR, hG⟩
        have B4 := iC.mk ((hG.block wr0.heap.size (iZ B3.out) (by intro e; injection e with e; have := HSZ.out; omega)).trans B3.out)
        have G4 := iC.mk (G3.out.step hg hlt hG hR)
        have hsp := fun (_ : True) => UG 1 (by omega) (x5 : Int) B4.out
        have B5 := iC.mk (show (w4.setCell ⟨wr0.heap.size, 1, none⟩ (.int .i64 (x5 : Int))).heap[wr0.heap.size]? = some (.cells #[.int .i64 (x4 : Int), .int .i64 (x5 : Int)] 98 (0, 0)) from lZ B4.out 1 _ rfl)
        have G5 := iC.mk (G4.out.box h00 hlt (kF w4 wr0.heap.size 1 (.int .i64 (x5 : Int))) HSZ.out HNE.out)
        clear hcall hR hG G3 B3
        go_upto_region 20 with fail
        obtain ⟨w5, hw5'⟩ : ∃ w5, w5 = w4.setCell ⟨wr0.heap.size, 1, none⟩ (.int .i64 (x5 : Int)) := ⟨_, rfl⟩
        rw [← hw5'] at B5 G5 ⊢
        clear hw5' hsp B4 G4 hw5
        have z6 : w5.cell? ⟨w.heap.size + 1, 6, none⟩ = some (.slice A6 ss.length a6) := (iE G5.out.xb 6).trans rfl
        have z0 : w5.cell? ⟨wr0.heap.size, 0, none⟩ = some (.int .i64 (x4 : Int)) := (iE B5.out 0).trans rfl
        have z1 : w5.cell? ⟨wr0.heap.size, 1, none⟩ = some (.int .i64 (x5 : Int)) := (iE B5.out 1).trans rfl
        have hst0 : True → True := fun h => h
        go_wp2_with (at_builtin; go_loud (refine Kd.R_append k98 (w0 := w5) (w.heap.size + 2) rfl (.tmp 60) (.tmp 62) 25 98 (.agg #[.int .i64 0, .int .i64 0]) 16 rfl Tryd.underlying25 TB rfl (by decide) (by omega) (.slice A6 ss.length a6) ss ⟨(x4 : Int), (x5 : Int)⟩ [.int .i64 (x4 : Int), .int .i64 (x5 : Int)] (fun _ => True) (fun _ => False) rfl rfl ?aP ?aK ?aF ?aO (Below.refl _ _) ?aB ?aL ?_; (case aP => exact PG _ _ _ (⟨(x4 : Int), (x5 : Int)⟩ : jV)); (case aK => exact fun k h => h.elim); (case aF => exact fun _ _ => trivial); (case aO => exact G5.out.r6); (case aB => exact G5.out.size); (case aL => (have := HLK.out; omega)); intro v5 w6 ho hb5 hg5 hat; obtain ⟨A7, a7, rfl⟩ := Kd.R_slice ho; obtain ⟨ss', hss⟩ : ∃ x, x = ss ++ [(⟨(x4 : Int), (x5 : Int)⟩ : jV)] := ⟨_, rfl⟩; rw [← hss] at ho; rw [← hss]; have HSS := iC.mk hss; obtain ⟨hxb, h7⟩ := G5.out.app6 h00 hlt hg5 ho; have G7 := iC.mk h7; have hst7 := fun (_ : True) => st_6 A7 ss'.length a7 hxb; clear hss ho hb5 hg5 hat hxb h7))
        go_roundw
        case rel => exact ⟨k + 1, ss', rb, A7, a7, by omega, by go_num, ⟨HRN.out, by rw [HSS.out, List.length_append, HLK.out.2]; rfl⟩, ⟨by rw [HSS.out]; exact HSN.out⟩, G7⟩
        case measure => simp [intOf]; omega
      · obtain rfl : k = n := by omega
        obtain ⟨wz0, wz1, wz2, wz3, wz4, wz5, wz6, wz7, wz8, wz9, wy0, wy1, wy2, wy3, wy4, wy5, wy6, wy7, wy8, wy9⟩ := ten (HH.out.xb)
        clear wy0 wy1 wy2 wy3 wy4 wy5 wy6 wy7 wy8 wy9
        have hstz := fun (_ : True) => mG (a := 6) (k := (m2 : Int)) (i := 0) (x3 := .slice none 0 0) (x4 := .slice none 0 0) (j := (m3 : Int)) (x6 := .slice A6 ss.length a6) (p := 0) (q := 0) (x9 := .slice none 0 0) HH.out.zb rfl rfl rfl rfl
        go_wp2
        ((try simp only [Exit.inBlock, Exit.then]); refine bodyPost_ret (qL rfl rfl (setRow_heap _ _ _ _ _ _ HH.out.zb) rfl) rfl ?_)
        obtain ⟨hl, hr, hgr⟩ := HH.out.fin hlt #[.int .u8 (⟨6, (m2 : Int), 0, [], [], ⟨(m3 : Int), ss⟩, 0, 0, []⟩ : SRec).f0, .int .u32 (⟨6, (m2 : Int), 0, [], [], ⟨(m3 : Int), ss⟩, 0, 0, []⟩ : SRec).f1, .int .u32 (⟨6, (m2 : Int), 0, [], [], ⟨(m3 : Int), ss⟩, 0, 0, []⟩ : SRec).f2, .slice none (⟨6, (m2 : Int), 0, [], [], ⟨(m3 : Int), ss⟩, 0, 0, []⟩ : SRec).f3.length 0, .slice none (⟨6, (m2 : Int), 0, [], [], ⟨(m3 : Int), ss⟩, 0, 0, []⟩ : SRec).f4.length 0, .int .u32 (⟨6, (m2 : Int), 0, [], [], ⟨(m3 : Int), ss⟩, 0, 0, []⟩ : SRec).f5.f0, .slice A6 (⟨6, (m2 : Int), 0, [], [], ⟨(m3 : Int), ss⟩, 0, 0, []⟩ : SRec).f5.f1.length a6, .int .i64 (⟨6, (m2 : Int), 0, [], [], ⟨(m3 : Int), ss⟩, 0, 0, []⟩ : SRec).f6, .int .i64 (⟨6, (m2 : Int), 0, [], [], ⟨(m3 : Int), ss⟩, 0, 0, []⟩ : SRec).f7, .slice none (⟨6, (m2 : Int), 0, [], [], ⟨(m3 : Int), ss⟩, 0, 0, []⟩ : SRec).f8.length 0]
        refine ⟨⟨6, (m2 : Int), 0, [], [], ⟨(m3 : Int), ss⟩, 0, 0, []⟩, none, 0, none, 0, A6, a6, none, 0, r, b4, rfl, hl, hr, hgr, fun e => ?_, fun e => ?_⟩
        · obtain ⟨e1, e2⟩ := HS4.out.1 e
          obtain ⟨e3, e4⟩ := HS3.out.1 e1
          rw [HST.out.1 e3]
          unfold nO
          rw [if_neg (by decide), if_neg (by decide), if_pos (by rfl), kT e4]
          simp only [Option.bind_some]
          unfold oK
          rw [e2]
          simp only [Option.bind_some]
          rw [Left.done (HSK.out e).1]
          rfl
        · cases b2 with
          | true => exact HST.out.2 rfl
          | false =>
            rw [HST.out.1 rfl]
            unfold nO
            rw [if_neg (by decide), if_neg (by decide), if_pos (by rfl)]
            cases b3 with
            | true =>
              rcases HS3.out.2 rfl with e1 | e1
              · cases e1
              · rw [lS e1]; rfl
            | false =>
              rw [kT (HS3.out.1 rfl).2]
              simp only [Option.bind_some]
              unfold oK
              rcases (HS4.out.2 e).2 with e1 | e1
              · cases e1
              · rw [e1]; rfl
  by_cases h7 : (m1 : Int) = 7
  · obtain rfl : m1 = 7 := by omega
    clear xy0 xy1 xy2 xy3 xy4 xy5 xy6 xy7 xy8 xy9 hm1 hm2 h1 h2 h6 h7
    go_upto_region 5 with fail
    go_upto_region 8 with fail
    go_upto_region 11 with fail
    go_upto_region 21 with fail
    go_upto_region 22 with fail
    have hcall := get_any 4 4 rfl (by omega) g r2 b2 w0 W5 H5.out.rb H5.out.bl
    go_wp2_with fail
    go_at_call 98
    refine hcall.mono ?_
    rintro e w6 ⟨m3, r3, b3, rfl, hR, hG, hlen, hst⟩
    have H6 := iC.mk (H5.out.step hg hlt hG hR)
    have hm3 : m3 < 4294967296 := by have h8 := hlen.2; rw [show (256 : Nat) ^ 4 = 4294967296 from by decide] at h8; exact h8
    have hw3 : wrap64 (m3 : Int) = (m3 : Int) := pY m3 (by omega)
    have hst6 := fun (_ : True) => st_7 (m3 : Int) H6.out.xb
    have H7 := iC.mk (H6.out.set (x' := ⟨7, (m2 : Int), 0, [], [], ⟨0, []⟩, (m3 : Int), 0, []⟩) h00 hlt H6.out.r3 H6.out.r4 H6.out.r6 H6.out.r9)
    have HR3 := iC.mk (show r3.length ≤ l.length from Nat.le_trans hlen.1 HR2.out)
    have HS3 := iC.mk hst
    clear hcall hG hR hlen hst xz0 xz1 xz2 xz3 xz4 xz5 xz6 xz7 xz8 xz9
    go_upto_region 23 with fail
    obtain ⟨W7, hW7⟩ : ∃ W7, W7 = w6.setRow (w.heap.size + 1) #[.int .u8 7, .int .u32 (m2 : Int), .int .u32 0, .slice none 0 0, .slice none 0 0, .int .u32 0, .slice none 0 0, .int .i64 (m3 : Int), .int .i64 0, .slice none 0 0] := ⟨_, rfl⟩
    have H7 := iC.mk (show lJ w0 w W7 g ⟨7, (m2 : Int), 0, [], [], ⟨0, []⟩, (m3 : Int), 0, []⟩ none 0 none 0 none 0 none 0 r3 b3 from by rw [hW7]; exact H7.out)
    rw [← hW7]
    clear hW7 hst6 H6 hw3 hm3
    have hcall := get_any 4 4 rfl (by omega) g r3 b3 w0 W7 H7.out.rb H7.out.bl
    go_wp2_with fail
    go_at_call 98
    refine hcall.mono ?_
    rintro e w8 ⟨m4, r4, b4, rfl, hR, hG, hlen, hst⟩
    have H8 := iC.mk (H7.out.step hg hlt hG hR)
    have hm4 : m4 < 4294967296 := by have h8 := hlen.2; rw [show (256 : Nat) ^ 4 = 4294967296 from by decide] at h8; exact h8
    have hw4 : wrap64 (m4 : Int) = (m4 : Int) := pY m4 (by omega)
    have hst8 := fun (_ : True) => st_8 (m4 : Int) H8.out.xb
    have H9 := iC.mk (H8.out.set (x' := ⟨7, (m2 : Int), 0, [], [], ⟨0, []⟩, (m3 : Int), (m4 : Int), []⟩) h00 hlt H8.out.r3 H8.out.r4 H8.out.r6 H8.out.r9)
    have HR4 := iC.mk (show r4.length ≤ l.length from Nat.le_trans hlen.1 HR3.out)
    have HS4 := iC.mk hst
    clear hcall hG hR hlen hst
    go_upto_region 24 with fail
    obtain ⟨W9, hW9⟩ : ∃ W9, W9 = w8.setRow (w.heap.size + 1) #[.int .u8 7, .int .u32 (m2 : Int), .int .u32 0, .slice none 0 0, .slice none 0 0, .int .u32 0, .slice none 0 0, .int .i64 (m3 : Int), .int .i64 (m4 : Int), .slice none 0 0] := ⟨_, rfl⟩
    have H9 := iC.mk (show lJ w0 w W9 g ⟨7, (m2 : Int), 0, [], [], ⟨0, []⟩, (m3 : Int), (m4 : Int), []⟩ none 0 none 0 none 0 none 0 r4 b4 from by rw [hW9]; exact H9.out)
    rw [← hW9]
    clear hW9 hst8 H8 hw4 hm4
    have hcall := zT g r4 b4 w0 W9 H9.out.rb H9.out.bl hg (by have := HR4.out; omega)
    go_wp2_with fail
    go_at_call 102
    refine hcall.mono ?_
    rintro e wa hq
    obtain ⟨hG, es, v, r5, b5, rfl, hv, hR, hlen, hst⟩ := RP.split hq
    have hv : Kd.R k86 86 wa W9.heap.size (fun _ => True) v es := hv
    obtain ⟨A9, a9, rfl⟩ := Kd.R_slice hv
    have Ha := iC.mk (H9.out.step hg hlt hG hR)
    have hsta := fun (_ : True) => st_9 A9 es.length a9 Ha.out.xb
    have Hb := iC.mk (Ha.out.set (x' := ⟨7, (m2 : Int), 0, [], [], ⟨0, []⟩, (m3 : Int), (m4 : Int), es⟩) h00 hlt Ha.out.r3 Ha.out.r4 Ha.out.r6 (Kd.R_lower hv H9.out.size))
    have HS5 := iC.mk hst
    clear hcall hq hG hv hR hlen hst
    go_upto_region 25 with fail
    obtain ⟨Wb, hWb⟩ : ∃ Wb, Wb = wa.setRow (w.heap.size + 1) #[.int .u8 7, .int .u32 (m2 : Int), .int .u32 0, .slice none 0 0, .slice none 0 0, .int .u32 0, .slice none 0 0, .int .i64 (m3 : Int), .int .i64 (m4 : Int), .slice A9 es.length a9] := ⟨_, rfl⟩
    have Hb := iC.mk (show lJ w0 w Wb g ⟨7, (m2 : Int), 0, [], [], ⟨0, []⟩, (m3 : Int), (m4 : Int), es⟩ none 0 none 0 none 0 A9 a9 r5 b5 from by rw [hWb]; exact Hb.out)
    rw [← hWb]
    clear hWb hsta Ha
    obtain ⟨wz0, wz1, wz2, wz3, wz4, wz5, wz6, wz7, wz8, wz9, wy0, wy1, wy2, wy3, wy4, wy5, wy6, wy7, wy8, wy9⟩ := ten (Hb.out.xb)
    clear wy0 wy1 wy2 wy3 wy4 wy5 wy6 wy7 wy8 wy9
    have hstz := fun (_ : True) => mG (a := 7) (k := (m2 : Int)) (i := 0) (x3 := .slice none 0 0) (x4 := .slice none 0 0) (j := 0) (x6 := .slice none 0 0) (p := (m3 : Int)) (q := (m4 : Int)) (x9 := .slice A9 es.length a9) Hb.out.zb rfl rfl rfl rfl
    go_wp2
    ((try simp only [Exit.inBlock, Exit.then]); refine bodyPost_ret (qL rfl rfl (setRow_heap _ _ _ _ _ _ Hb.out.zb) rfl) rfl ?_)
    obtain ⟨hl, hr, hgr⟩ := Hb.out.fin hlt #[.int .u8 (⟨7, (m2 : Int), 0, [], [], ⟨0, []⟩, (m3 : Int), (m4 : Int), es⟩ : SRec).f0, .int .u32 (⟨7, (m2 : Int), 0, [], [], ⟨0, []⟩, (m3 : Int), (m4 : Int), es⟩ : SRec).f1, .int .u32 (⟨7, (m2 : Int), 0, [], [], ⟨0, []⟩, (m3 : Int), (m4 : Int), es⟩ : SRec).f2, .slice none (⟨7, (m2 : Int), 0, [], [], ⟨0, []⟩, (m3 : Int), (m4 : Int), es⟩ : SRec).f3.length 0, .slice none (⟨7, (m2 : Int), 0, [], [], ⟨0, []⟩, (m3 : Int), (m4 : Int), es⟩ : SRec).f4.length 0, .int .u32 (⟨7, (m2 : Int), 0, [], [], ⟨0, []⟩, (m3 : Int), (m4 : Int), es⟩ : SRec).f5.f0, .slice none (⟨7, (m2 : Int), 0, [], [], ⟨0, []⟩, (m3 : Int), (m4 : Int), es⟩ : SRec).f5.f1.length 0, .int .i64 (⟨7, (m2 : Int), 0, [], [], ⟨0, []⟩, (m3 : Int), (m4 : Int), es⟩ : SRec).f6, .int .i64 (⟨7, (m2 : Int), 0, [], [], ⟨0, []⟩, (m3 : Int), (m4 : Int), es⟩ : SRec).f7, .slice A9 (⟨7, (m2 : Int), 0, [], [], ⟨0, []⟩, (m3 : Int), (m4 : Int), es⟩ : SRec).f8.length a9]
    refine ⟨⟨7, (m2 : Int), 0, [], [], ⟨0, []⟩, (m3 : Int), (m4 : Int), es⟩, none, 0, none, 0, none, 0, A9, a9, r5, b5, rfl, hl, hr, hgr, fun e => ?_, fun e => ?_⟩
    · obtain ⟨e1, e2⟩ := HS5.out.1 e
      obtain ⟨e3, e4⟩ := HS4.out.1 e1
      obtain ⟨e5, e6⟩ := HS3.out.1 e3
      rw [HST.out.1 e5]
      unfold nO
      rw [if_neg (by decide), if_neg (by decide), if_neg (by decide), if_pos (by rfl), kT e6]
      simp only [Option.bind_some]
      rw [kT e4]
      simp only [Option.bind_some]
      rw [e2]
      rfl
    · cases b2 with
      | true => exact HST.out.2 rfl
      | false =>
        rw [HST.out.1 rfl]
        unfold nO
        rw [if_neg (by decide), if_neg (by decide), if_neg (by decide), if_pos (by rfl)]
        cases b3 with
        | true =>
          rcases HS3.out.2 rfl with e1 | e1
          · cases e1
          · rw [lS e1]; rfl
        | false =>
          rw [kT (HS3.out.1 rfl).2]
          simp only [Option.bind_some]
          cases b4 with
          | true =>
            rcases HS4.out.2 rfl with e1 | e1
            · cases e1
            · rw [lS e1]; rfl
          | false =>
            rw [kT (HS4.out.1 rfl).2]
            simp only [Option.bind_some]
            rcases HS5.out.2 e with e1 | e1
            · cases e1
            · rw [e1]; rfl
  have hrb : RB w0 (W5.setRow w.heap.size #[.int .u8 (⟨(m1 : Int), (m2 : Int), 0, [], [], ⟨0, []⟩, 0, 0, []⟩ : SRec).f0, .int .u32 (⟨(m1 : Int), (m2 : Int), 0, [], [], ⟨0, []⟩, 0, 0, []⟩ : SRec).f1, .int .u32 (⟨(m1 : Int), (m2 : Int), 0, [], [], ⟨0, []⟩, 0, 0, []⟩ : SRec).f2, .slice none (⟨(m1 : Int), (m2 : Int), 0, [], [], ⟨0, []⟩, 0, 0, []⟩ : SRec).f3.length 0, .slice none (⟨(m1 : Int), (m2 : Int), 0, [], [], ⟨0, []⟩, 0, 0, []⟩ : SRec).f4.length 0, .int .u32 (⟨(m1 : Int), (m2 : Int), 0, [], [], ⟨0, []⟩, 0, 0, []⟩ : SRec).f5.f0, .slice none (⟨(m1 : Int), (m2 : Int), 0, [], [], ⟨0, []⟩, 0, 0, []⟩ : SRec).f5.f1.length 0, .int .i64 (⟨(m1 : Int), (m2 : Int), 0, [], [], ⟨0, []⟩, 0, 0, []⟩ : SRec).f6, .int .i64 (⟨(m1 : Int), (m2 : Int), 0, [], [], ⟨0, []⟩, 0, 0, []⟩ : SRec).f7, .slice none (⟨(m1 : Int), (m2 : Int), 0, [], [], ⟨0, []⟩, 0, 0, []⟩ : SRec).f8.length 0]) g r2 b2 := RB.grown H5.out.rb (jH _ _ _) (by intro e; injection e with e; omega)
  have HRB := iC.mk hrb
  have hstz := fun (_ : True) => mG (a := (m1 : Int)) (k := (m2 : Int)) (i := 0) (x3 := .slice none 0 0) (x4 := .slice none 0 0) (j := 0) (x6 := .slice none 0 0) (p := 0) (q := 0) (x9 := .slice none 0 0) H5.out.zb rfl rfl rfl rfl
  clear hrb
  obtain ⟨k1, hk1⟩ : ∃ k1 : Int, k1 = (m1 : Int) := ⟨_, rfl⟩
  rw [← hk1] at h1 h2 h6 h7 hm1 xz0 hstz ⊢
  have HK1 := iC.mk hk1
  clear hk1 hm2 hm1
  go_upto_region 5 with fail
  go_upto_region 8 with fail
  go_upto_region 11 with fail
  go_upto_region 21 with fail
  clear xy0 xy1 xy2 xy3 xy4 xy5 xy6 xy7 xy8 xy9
  go_wp2
  have hG := jH W5 w.heap.size #[.int .u8 (⟨k1, (m2 : Int), 0, [], [], ⟨0, []⟩, 0, 0, []⟩ : SRec).f0, .int .u32 (⟨k1, (m2 : Int), 0, [], [], ⟨0, []⟩, 0, 0, []⟩ : SRec).f1, .int .u32 (⟨k1, (m2 : Int), 0, [], [], ⟨0, []⟩, 0, 0, []⟩ : SRec).f2, .slice none (⟨k1, (m2 : Int), 0, [], [], ⟨0, []⟩, 0, 0, []⟩ : SRec).f3.length 0, .slice none (⟨k1, (m2 : Int), 0, [], [], ⟨0, []⟩, 0, 0, []⟩ : SRec).f4.length 0, .int .u32 (⟨k1, (m2 : Int), 0, [], [], ⟨0, []⟩, 0, 0, []⟩ : SRec).f5.f0, .slice none (⟨k1, (m2 : Int), 0, [], [], ⟨0, []⟩, 0, 0, []⟩ : SRec).f5.f1.length 0, .int .i64 (⟨k1, (m2 : Int), 0, [], [], ⟨0, []⟩, 0, 0, []⟩ : SRec).f6, .int .i64 (⟨k1, (m2 : Int), 0, [], [], ⟨0, []⟩, 0, 0, []⟩ : SRec).f7, .slice none (⟨k1, (m2 : Int), 0, [], [], ⟨0, []⟩, 0, 0, []⟩ : SRec).f8.length 0]
  ((try simp only [Exit.inBlock, Exit.then]); refine bodyPost_ret (qL rfl rfl (setRow_heap _ _ _ _ _ _ H5.out.zb) rfl) rfl ?_)
  refine ⟨⟨k1, (m2 : Int), 0, [], [], ⟨0, []⟩, 0, 0, []⟩, none, 0, none, 0, none, 0, none, 0, r2, b2, rfl, ⟨Kd.R_nil _ _ _ _ _, Kd.R_nil _ _ _ _ _, Kd.R_nil _ _ _ _ _, Kd.R_nil _ _ _ _ _⟩, RB.grown H5.out.rb hG (by intro e; injection e with e; omega), jU H5.out.gr hG (Nat.le_refl _), fun e => ?_, HST.out.2⟩
  rw [HST.out.1 e, ← HK1.out]
  unfold nO
  rw [if_neg h1, if_neg h2, if_neg h6, if_neg h7]
end Go.Proofs.YtgfkgppomaapiaaDoor.K
end

section
namespace Go.Proofs.YtgfkgppomaapiaaDoor.K
open RowKit YtgfkgppomaapiaaDoorW.PrintWords YtgfkgppomaapiaaDoorW.PrintLast YtgfkgppomaapiaaDoorW.PrintMore My
def JX (w : World) (d : SRec × Int) (e : Ending) (w' : World) : Prop := ∃ (A3 : Option Addr) (a3 : Nat) (A4 : Option Addr) (a4 : Nat) (A6 : Option Addr) (a6 : Nat) (A9 : Option Addr) (a9 : Nat), e = .returned (.tuple #[.agg #[.int .u8 d.1.f0, .int .u32 d.1.f1, .int .u32 d.1.f2, .slice A3 d.1.f3.length a3, .slice A4 d.1.f4.length a4, .int .u32 d.1.f5.f0, .slice A6 d.1.f5.f1.length a6, .int .i64 d.1.f6, .int .i64 d.1.f7, .slice A9 d.1.f8.length a9], .int .i64 d.2]) ∧ Lies w' d.1 A3 a3 A4 a4 A6 a6 A9 a9 ∧ Below w.heap.size w w'
theorem O7 (w : World) : Lies w kW none 0 none 0 none 0 none 0 := ⟨Kd.C_nil _ _, Nat.le_refl _, Kd.C_nil _ _, Nat.le_refl _, Kd.C_nil _ _, Nat.le_refl _, Kd.C_nil _ _, Nat.le_refl _⟩
theorem oL (w W : World) (h : Below w.heap.size w W) (c : Int) : JX w (kW, c) (.returned (.tuple #[.agg #[.int .u8 0, .int .u32 0, .int .u32 0, .slice none 0 0, .slice none 0 0, .int .u32 0, .slice none 0 0, .int .i64 0, .int .i64 0, .slice none 0 0], .int .i64 c])) (W.setRow w.heap.size #[.int .u8 0, .int .u32 0, .int .u32 0, .slice none 0 0, .slice none 0 0, .int .u32 0, .slice none 0 0, .int .i64 0, .int .i64 0, .slice none 0 0]) :=
  ⟨none, 0, none, 0, none, 0, none, 0, rfl, O7 _, below_grown h (jH W w.heap.size _) (Nat.le_refl _) (Nat.le_refl _)⟩
theorem pK {tmps : Array Value} {W : World} {p u : Tmp} {b : Nat} {cs : Array Value} {x : Value} (h : Tryd.f24.results = #[.cell p 30, .tmp u]) (hp : tmps.getD p undef = .pointer (some ⟨b, 0, none⟩)) (hu : tmps.getD u undef = x) (hx : W.heap[b]? = some (.cells cs 30 (0, 0))) (hs : cs.size = 10) :
    (results Tryd.f24 tmps).run Tryd.prog W = .ok (.tuple #[.agg cs, x]) W := by
  have h1 := run_loadVar_row (P := Tryd.prog) W b 30 30 cs (0, 0) _ hx Tryd.underlying30 rfl (by rw [hs]; kernel_rfl)
  rw [results_cell_tmp h, hp, hu]
  simp [asAddr, h1, Result.andThen]
theorem IU {w : World} {r : SRec} {A3 A4 A6 A9 : Option Addr} {a3 a4 a6 a9 : Nat} (h : Lies w r A3 a3 A4 a4 A6 a6 A9 a9) {E1 : List Int} {E2 : Int} (hE : encR r = (E1, E2)) : Calls Tryd.prog 18 #[.agg #[.int .u8 r.f0, .int .u32 r.f1, .int .u32 r.f2, .slice A3 r.f3.length a3, .slice A4 r.f4.length a4, .int .u32 r.f5.f0, .slice A6 r.f5.f1.length a6, .int .i64 r.f6, .int .i64 r.f7, .slice A9 r.f8.length a9]] w (nX w (E1, E2)) := by
  rw [← hE]
  exact yQ r.f0 r.f1 r.f2 A3 a3 r.f3 A4 a4 r.f4 r.f5.f0 A6 a6 r.f5.f1 r.f6 r.f7 A9 a9 r.f8 w h.h3 h.d3 h.h4 h.d4 h.h6 h.d6 h.h9 h.d9
theorem yN (A : Option Addr) (n c : Nat) : (Tryd.prog).built 123 (#[(0, .slice A n c)] : Array (Nat × Value)).toList = some #[.slice A n c, .bool false] := by kernel_rfl
theorem MN (w : World) (A : Option Addr) (n c : Nat) : (Instr.build 123 #[(0, .slice A n c)]).run Tryd.prog w = .ok (.agg #[.slice A n c, .bool false]) w := run_build w _ _ _ (yN A n c)
theorem O0 {l : List UInt8} (hl : ¬ 60000 < l.length) (h : recP l = none) : decR l = (kW, 70) := by unfold decR; rw [if_neg hl, h]
theorem QC {l r : List UInt8} {x : SRec} (hl : ¬ 60000 < l.length) (h : recP l = some (x, r)) : decR l = if encR x = (nums l, 0) then (x, 0) else (kW, 70) := by unfold decR; rw [if_neg hl, h]
attribute [-go_sem] Instr.build Instr.storeAt
attribute [local go_sem] LD MN
set_option maxRecDepth 20000 in
set_option maxHeartbeats 16000000 in
theorem IL (A : Option Addr) (c : Nat) (l : List UInt8) (w : World) (hCi : (Kd.int .u8).C w A l.length (nums l)) (hc : l.length ≤ c) :
    Calls Tryd.prog 24 #[.slice A l.length c] w (JX w (decR l)) := by
  by_cases hl : 60000 < l.length
  · have hD : decR l = (kW, 3) := by unfold decR; rw [if_pos hl]
    rw [hD]
    have hst := fun (_ : True) => mG (a := 0) (k := 0) (i := 0) (x3 := .slice none 0 0) (x4 := .slice none 0 0) (j := 0) (x6 := .slice none 0 0) (p := 0) (q := 0) (x9 := .slice none 0 0) (show (w.alloc (.cells #[.int .u8 0, .int .u32 0, .int .u32 0, .slice none 0 0, .slice none 0 0, .int .u32 0, .slice none 0 0, .int .i64 0, .int .i64 0, .slice none 0 0] 30)).heap[w.heap.size]? = _ from iT rfl) rfl rfl rfl rfl
    clear hD hCi
    go_enter Tryd.func24, Tryd.ntmps24
    go_wp2
    ((try simp only [Exit.inBlock, Exit.then]); exact bodyPost_ret (pK rfl rfl rfl (setRow_heap _ _ _ _ _ _ (iT rfl)) rfl) rfl (oL w _ (iF (Below.refl _ _) _) 3))
  · obtain ⟨W2, hW2⟩ : ∃ W2, W2 = (w.alloc (.cells #[.int .u8 0, .int .u32 0, .int .u32 0, .slice none 0 0, .slice none 0 0, .int .u32 0, .slice none 0 0, .int .i64 0, .int .i64 0, .slice none 0 0] 30)).alloc (.cells #[.slice A l.length c, .bool false] 123) := ⟨_, rfl⟩
    have hb2 : Below w.heap.size w W2 := by rw [hW2]; exact iF (iF (Below.refl _ _) _) _
    have HX2 := iC.mk (show W2.heap[w.heap.size]? = some (.cells #[.int .u8 0, .int .u32 0, .int .u32 0, .slice none 0 0, .slice none 0 0, .int .u32 0, .slice none 0 0, .int .i64 0, .int .i64 0, .slice none 0 0] 30 (0, 0)) from by rw [hW2]; exact jG (iT rfl))
    have hrb : RB w W2 (w.heap.size + 1) l false := ⟨A, c, by rw [hW2]; exact iT (by simp), hc, rO hCi⟩
    have hcall := QB (w.heap.size + 1) l w W2 hrb hb2 (Nat.le_succ _) (by omega)
    have HB2 := iC.mk hb2
    have HW2 := iC.mk hW2
    have HLT := iC.mk (show w.heap.size < W2.heap.size from iZ HX2.out)
    have HCI := iC.mk hCi
    have hm := kQ hCi
    clear hrb hb2 hW2 hCi
    have HNL := iC.mk hl
    go_enter Tryd.func24, Tryd.ntmps24
    go_wp2_with fail
    rw [← HW2.out]
    go_at_call 79
    refine hcall.mono ?_
    rintro e w3 ⟨x, A3, a3, A4, a4, A6, a6, A9, a9, r, b, rfl, hL, hRB, hG, h1, h2⟩
    have hX3 : w3.heap[w.heap.size]? = some (.cells #[.int .u8 0, .int .u32 0, .int .u32 0, .slice none 0 0, .slice none 0 0, .int .u32 0, .slice none 0 0, .int .i64 0, .int .i64 0, .slice none 0 0] 30 (0, 0)) := (hG.block _ (iZ HX2.out) (by intro e; injection e with e; omega)).trans HX2.out
    have hB3 : Below w.heap.size w w3 := below_grown HB2.out hG (Nat.le_succ _) (Nat.le_refl _)
    obtain ⟨Ar, cr, hblk, _, _⟩ := hRB
    have hsx := fun (_ : True) => run_storeAt_new (P := Tryd.prog) w3 30 #[.int .u8 0, .int .u32 0, .int .u32 0, .slice none 0 0, .slice none 0 0, .int .u32 0, .slice none 0 0, .int .i64 0, .int .i64 0, .slice none 0 0] #[.int .u8 x.f0, .int .u32 x.f1, .int .u32 x.f2, .slice A3 x.f3.length a3, .slice A4 x.f4.length a4, .int .u32 x.f5.f0, .slice A6 x.f5.f1.length a6, .int .i64 x.f6, .int .i64 x.f7, .slice A9 x.f8.length a9] (by kernel_rfl) rfl (by simp [Value.oneCell'])
    obtain ⟨W4, hW4⟩ : ∃ W4, W4 = w3.alloc (.cells #[.int .u8 x.f0, .int .u32 x.f1, .int .u32 x.f2, .slice A3 x.f3.length a3, .slice A4 x.f4.length a4, .int .u32 x.f5.f0, .slice A6 x.f5.f1.length a6, .int .i64 x.f6, .int .i64 x.f7, .slice A9 x.f8.length a9] 30) := ⟨_, rfl⟩
    have hbw : Below w3.heap.size w3 W4 := by rw [hW4]; exact iF (Below.refl _ _) _
    have HX4 := iC.mk (iK hbw hX3)
    have HB4 := iC.mk (iI hB3 hbw)
    have HF4 := iC.mk (iK hbw hblk)
    have HL4 := iC.mk (hL.below hbw)
    have HC4 := iC.mk (Kd.C_below HCI.out HB4.out)
    have HR4 := iC.mk (show W4.heap[w3.heap.size]? = some (.cells #[.int .u8 x.f0, .int .u32 x.f1, .int .u32 x.f2, .slice A3 x.f3.length a3, .slice A4 x.f4.length a4, .int .u32 x.f5.f0, .slice A6 x.f5.f1.length a6, .int .i64 x.f6, .int .i64 x.f7, .slice A9 x.f8.length a9] 30 (0, 0)) from by rw [hW4]; exact iT rfl)
    have hlx := fun (_ : True) => nU HR4.out rfl
    have HW4 := iC.mk hW4
    have HD1 := iC.mk h1
    have HD2 := iC.mk h2
    clear hcall hW4 hbw hX3 hB3 hblk hL hG h1 h2 HX2 HB2 HW2
    obtain ⟨⟨E1, E2⟩, hE⟩ : ∃ E : List Int × Int, encR x = E := ⟨_, rfl⟩
    have hcall := IU HL4.out.lies hE
    have HE := iC.mk hE
    have HCS := iC.mk (rQ x)
    clear hE
    go_upto_region 5 with fail
    rw [← HW4.out]
    clear hsx hlx
    obtain ⟨wz0, wz1, wz2, wz3, wz4, wz5, wz6, wz7, wz8, wz9, wy0, wy1, wy2, wy3, wy4, wy5, wy6, wy7, wy8, wy9⟩ := ten (HR4.out)
    clear wy0 wy1 wy2 wy3 wy4 wy5 wy6 wy7 wy8 wy9
    go_wp2_with fail
    go_at_call 18
    refine hcall.mono ?_
    rintro e w5 ⟨v0, rfl, h0, hb5⟩
    dsimp only at h0
    dsimp only
    obtain ⟨A0, c0, rfl⟩ := Kd.R_slice h0
    obtain ⟨_, q0, C0⟩ := Kd.R_reads' h0
    have hX5 := iK hb5 HX4.out
    have HB5 := iC.mk (iI HB4.out hb5)
    have hF5 := iK hb5 HF4.out
    have HL5 := iC.mk (HL4.out.below hb5)
    have hR5 := iK hb5 HR4.out
    have hcv1 := fun (_ : True) => Kd.C_string (P := Tryd.prog) (c := c0) Tryd.underlying33 Tryd.underlying5 Tryd.underlying9 C0
    have hcv2 := fun (_ : True) => Kd.C_string (P := Tryd.prog) (c := c) Tryd.underlying33 Tryd.underlying5 Tryd.underlying9 (Kd.C_below HC4.out hb5)
    have zf : w5.cell? ⟨w.heap.size + 1, 1, none⟩ = some (.bool b) := (iE hF5 1).trans rfl
    clear wz0 wz1 wz2 wz3 wz4 wz5 wz6 wz7 wz8 wz9
    have hst := fun (_ : True) => mG (a := 0) (k := 0) (i := 0) (x3 := .slice none 0 0) (x4 := .slice none 0 0) (j := 0) (x6 := .slice none 0 0) (p := 0) (q := 0) (x9 := .slice none 0 0) hX5 rfl rfl rfl rfl
    have HX5 := iC.mk hX5
    have HR5 := iC.mk hR5
    clear hcall h0 q0 C0 hb5 hF5 HX4 HB4 HF4 HL4 HC4 HR4 hX5 hR5 HCI HW4
    cases b with
    | true =>
      have HDD := iC.mk (O0 HNL.out (HD2.out rfl))
      clear HD1 HD2 HE HCS
      go_wp2
      ((try simp only [Exit.inBlock, Exit.then]); exact bodyPost_ret (pK rfl rfl rfl (setRow_heap _ _ _ _ _ _ HX5.out) rfl) rfl (by rw [HDD.out]; exact oL w _ HB5.out 70))
    | false =>
      have HDD := iC.mk (QC HNL.out (HD1.out rfl))
      have hcs := HCS.out
      have he := HE.out
      rw [he] at hcs
      clear HD1 HD2 HE HCS hl
      rcases hcs with hc | hc | hc
      · obtain ⟨rfl, rfl⟩ := Prod.mk.inj hc
        have HD3 := iC.mk (show decR l = (kW, 70) from HDD.out.trans (if_neg (by rw [he]; intro h; injection h with _ h2; cases h2)))
        clear he hc HDD
        go_wp2
        ((try simp only [Exit.inBlock, Exit.then]); exact bodyPost_ret (pK rfl rfl rfl (setRow_heap _ _ _ _ _ _ HX5.out) rfl) rfl (by rw [HD3.out]; exact oL w _ HB5.out 70))
      · obtain ⟨rfl, rfl⟩ := Prod.mk.inj hc
        have HD3 := iC.mk (show decR l = (kW, 70) from HDD.out.trans (if_neg (by rw [he]; intro h; injection h with _ h2; cases h2)))
        clear he hc HDD
        go_wp2
        ((try simp only [Exit.inBlock, Exit.then]); exact bodyPost_ret (pK rfl rfl rfl (setRow_heap _ _ _ _ _ _ HX5.out) rfl) rfl (by rw [HD3.out]; exact oL w _ HB5.out 70))
      · obtain ⟨rfl, rfl⟩ := Prod.mk.inj hc
        have heq := pJ (recE x) l
        obtain ⟨s1, hs1⟩ : ∃ s, s = strOfNums (nums (recE x)) := ⟨_, rfl⟩
        obtain ⟨s2, hs2⟩ : ∃ s, s = strOfNums (nums l) := ⟨_, rfl⟩
        rw [← hs1] at hcv1 heq
        rw [← hs2] at hcv2 heq
        clear hs1 hs2 hc
        by_cases hq : recE x = l
        · have HD3 := iC.mk (show decR l = (x, 0) from HDD.out.trans (if_pos (by rw [he, hq])))
          have hqq : (s1.toList == s2.toList) = true := by rw [heq]; exact decide_eq_true hq
          have hst := fun (_ : True) => mG (a := x.f0) (k := x.f1) (i := x.f2) (x3 := .slice A3 x.f3.length a3) (x4 := .slice A4 x.f4.length a4) (j := x.f5.f0) (x6 := .slice A6 x.f5.f1.length a6) (p := x.f6) (q := x.f7) (x9 := .slice A9 x.f8.length a9) HX5.out rfl rfl rfl rfl
          obtain ⟨wz0, wz1, wz2, wz3, wz4, wz5, wz6, wz7, wz8, wz9, wy0, wy1, wy2, wy3, wy4, wy5, wy6, wy7, wy8, wy9⟩ := ten (HR5.out)
          clear wy0 wy1 wy2 wy3 wy4 wy5 wy6 wy7 wy8 wy9
          clear heq hq he HDD
          go_wp2
          ((try simp only [Exit.inBlock, Exit.then]); refine bodyPost_ret (pK rfl rfl rfl (setRow_heap _ _ _ _ _ _ HX5.out) rfl) rfl ?_)
          rw [HD3.out]
          exact ⟨A3, a3, A4, a4, A6, a6, A9, a9, rfl, ((HL5.out.keep (jH _ w.heap.size _) HLT.out).lies), below_grown HB5.out (jH _ w.heap.size _) (Nat.le_refl _) (Nat.le_refl _)⟩
        · have HD3 := iC.mk (show decR l = (kW, 70) from HDD.out.trans (if_neg (by rw [he]; intro h; injection h with h1 _; exact hq (yE h1))))
          have hqq : (s1.toList == s2.toList) = false := by rw [heq]; exact decide_eq_false hq
          clear heq hq he HDD
          go_wp2
          ((try simp only [Exit.inBlock, Exit.then]); exact bodyPost_ret (pK rfl rfl rfl (setRow_heap _ _ _ _ _ _ HX5.out) rfl) rfl (by rw [HD3.out]; exact oL w _ HB5.out 70))
end Go.Proofs.YtgfkgppomaapiaaDoor.K
end

section
namespace Go.Proofs.YtgfkgppomaapiaaDoor.K
open Go.RowKit Go.Proofs.YtgfkgppomaapiaaDoorW.PrintWords Go.Proofs.YtgfkgppomaapiaaDoor.My
theorem rZ {n x : Nat} {b t : List UInt8} (h : number n b = some (x, t)) : x < 256 ^ n := by
  unfold number at h
  split at h
  · cases h
  · injection h with h
    injection h with h1 h2
    subst h1
    have := rJ (b.take n)
    rwa [List.length_take, Nat.min_eq_left (by omega)] at this
theorem rD {n : Nat} {x : Int} {b t : List UInt8} (h : intP n b = some (x, t)) : 0 ≤ x ∧ x < 256 ^ n := by
  unfold intP at h
  obtain ⟨⟨y, s⟩, h1, h2⟩ := Option.bind_eq_some_iff.1 h
  injection h2 with h2
  injection h2 with h3 h4
  subst h3
  have := rZ h1
  simp only
  exact ⟨by omega, by have : ((y : Nat) : Int) < ((256 ^ n : Nat) : Int) := by omega
                      simpa using this⟩
theorem J6 {α : Type} {p : List UInt8 → Option (α × List UInt8)} {Q : α → Prop} (hp : ∀ b x t, p b = some (x, t) → Q x) : ∀ (n : Nat) (b : List UInt8) (l : List α) (t : List UInt8), repP p n b = some (l, t) → ∀ x ∈ l, Q x
  | 0, b, l, t, h, x, hx => by
    unfold repP at h
    injection h with h
    injection h with h1 h2
    subst h1
    cases hx
  | n + 1, b, l, t, h, x, hx => by
    unfold repP at h
    obtain ⟨⟨y, s⟩, h1, h2⟩ := Option.bind_eq_some_iff.1 h
    obtain ⟨⟨ys, u⟩, h3, h4⟩ := Option.bind_eq_some_iff.1 h2
    injection h4 with h4
    injection h4 with h5 h6
    subst h5
    rcases List.mem_cons.1 hx with rfl | hx
    · exact hp _ _ _ h1
    · exact J6 hp n _ _ _ h3 x hx
theorem UD {n : Nat} (h : n < 256 ^ 8) : -9223372036854775808 ≤ s64 n ∧ s64 n < 9223372036854775808 := by
  have e : (256 : Nat) ^ 8 = 18446744073709551616 := by decide
  rw [e] at h
  unfold s64
  split <;> omega
theorem Q7 {b t : List UInt8} {f : jO} (h : oD b = some (f, t)) : JV f := by
  unfold oD at h
  obtain ⟨x, _, h⟩ := Option.bind_eq_some_iff.1 h
  obtain ⟨y, _, h⟩ := Option.bind_eq_some_iff.1 h
  obtain ⟨⟨z, s⟩, h1, h⟩ := Option.bind_eq_some_iff.1 h
  injection h with h
  injection h with h2 h3
  subst h2
  exact UD (rZ h1)
theorem zL {b t : List UInt8} {l : List jO} (h : lM b = some (l, t)) : ∀ f ∈ l, JV f := by
  unfold lM at h
  obtain ⟨x, _, h⟩ := Option.bind_eq_some_iff.1 h
  exact J6 (fun _ _ _ => Q7) _ _ _ _ h
theorem OW {b t : List UInt8} {e : jE} (h : lL b = some (e, t)) : IK e := by
  unfold lL at h
  obtain ⟨⟨x, s⟩, h1, h⟩ := Option.bind_eq_some_iff.1 h
  obtain ⟨⟨y, u⟩, h2, h⟩ := Option.bind_eq_some_iff.1 h
  injection h with h
  injection h with h3 h4
  subst h3
  have := rD h1
  exact ⟨this.1, by have := this.2; simp at this ⊢; omega, zL h2⟩
theorem JJ {b t : List UInt8} {l : List jE} (h : kL b = some (l, t)) : ∀ e ∈ l, IK e := by
  unfold kL at h
  obtain ⟨x, _, h⟩ := Option.bind_eq_some_iff.1 h
  exact J6 (fun _ _ _ => OW) _ _ _ _ h
theorem z32' : (0 : Int) ≤ 0 ∧ (0 : Int) < 4294967296 := by decide
theorem IP {x : Int} {b t : List UInt8} (h : intP 4 b = some (x, t)) : 0 ≤ x ∧ x < 4294967296 := by
  have := rD h
  exact ⟨this.1, by have := this.2; simp at this; omega⟩
theorem TE {b t : List UInt8} {r : SRec} (h : recP b = some (r, t)) : RU r := by
  unfold recP at h
  obtain ⟨⟨k, s⟩, h1, h⟩ := Option.bind_eq_some_iff.1 h
  obtain ⟨⟨id, u⟩, h2, h⟩ := Option.bind_eq_some_iff.1 h
  have hk := rD h1
  have hk : 0 ≤ k ∧ k < 256 := ⟨hk.1, by have := hk.2; simp at this; omega⟩
  have hid := IP h2
  simp only at h
  unfold nO at h
  split at h
  · obtain ⟨⟨x, s⟩, h3, h⟩ := Option.bind_eq_some_iff.1 h
    obtain ⟨⟨y, s2⟩, h4, h⟩ := Option.bind_eq_some_iff.1 h
    injection h with h
    injection h with h5 h6
    subst h5
    exact ⟨hk, hid, z32', zL h4, z32', fun e h => by cases h⟩
  split at h
  · obtain ⟨⟨x, s⟩, h3, h⟩ := Option.bind_eq_some_iff.1 h
    obtain ⟨⟨y, s2⟩, h4, h⟩ := Option.bind_eq_some_iff.1 h
    injection h with h
    injection h with h5 h6
    subst h5
    exact ⟨hk, hid, IP h3, (fun e h => by cases h), z32', fun e h => by cases h⟩
  split at h
  · obtain ⟨⟨x, s⟩, h3, h⟩ := Option.bind_eq_some_iff.1 h
    obtain ⟨⟨y, s2⟩, h4, h⟩ := Option.bind_eq_some_iff.1 h
    injection h with h
    injection h with h5 h6
    subst h5
    exact ⟨hk, hid, z32', (fun e h => by cases h), IP h3, fun e h => by cases h⟩
  split at h
  · obtain ⟨⟨x, s⟩, h3, h⟩ := Option.bind_eq_some_iff.1 h
    obtain ⟨⟨y, s2⟩, h4, h⟩ := Option.bind_eq_some_iff.1 h
    obtain ⟨⟨z, s3⟩, h7, h⟩ := Option.bind_eq_some_iff.1 h
    injection h with h
    injection h with h5 h6
    subst h5
    exact ⟨hk, hid, z32', (fun e h => by cases h), z32', JJ h7⟩
  · injection h with h
    injection h with h5 h6
    subst h5
    exact ⟨hk, hid, z32', (fun e h => by cases h), z32', fun e h => by cases h⟩
theorem RS (l : List UInt8) : ((decR l).2 ≠ 0 ∧ (decR l).1 = kW) ∨ (∃ x, decR l = (x, 0) ∧ jJ x = true ∧ RU x ∧ recE x = l ∧ l.length ≤ 60000) := by
  unfold decR
  by_cases hl : 60000 < l.length
  · rw [if_pos hl]; exact .inl ⟨(by decide : (3 : Int) ≠ 0), rfl⟩
  rw [if_neg hl]
  cases hp : recP l with
  | none => exact .inl ⟨(by decide : (70 : Int) ≠ 0), rfl⟩
  | some y =>
    obtain ⟨x, r⟩ := y
    simp only
    by_cases he : encR x = (nums l, 0)
    · rw [if_pos he]
      refine .inr ⟨x, rfl, ?_, TE hp, ?_, by omega⟩
      · unfold encR at he
        split at he
        · assumption
        · injection he with _ h2; cases h2
      · rcases rQ x with h | h | h <;> rw [h] at he <;> injection he with h1 h2
        · cases h2
        · cases h2
        · exact yE h1
    · rw [if_neg he]; exact .inl ⟨(by decide : (70 : Int) ≠ 0), rfl⟩
end Go.Proofs.YtgfkgppomaapiaaDoor.K
end

section
namespace Go.Proofs.YtgfkgppomaapiaaDoor.K
open RowKit YtgfkgppomaapiaaDoorW.PrintWords YtgfkgppomaapiaaDoorW.PrintLast YtgfkgppomaapiaaDoorW.PrintMore My
theorem LH : SLen kW := ⟨by decide, by decide, by decide, by decide⟩
theorem NG {x : SRec} (h : SLen x) : ∃ k, stratumref07_Same.f k x.f0 x.f1 x.f2 x.f3 x.f4 x.f5.f0 x.f5.f1 x.f6 x.f7 x.f8 x.f0 x.f1 x.f2 x.f3 x.f4 x.f5.f0 x.f5.f1 x.f6 x.f7 x.f8 = some true := by
  obtain ⟨t, h1, h2⟩ := TG x x h h
  obtain ⟨k, hk⟩ := h1.rounds
  rw [h2.2 ⟨rfl, rfl, rfl, rfl, rfl, rfl, rfl, ⟨rfl, rfl⟩, rfl⟩] at hk
  exact ⟨k, hk⟩
theorem OG (l : List UInt8) : SLen (decR l).1 := by
  rcases RS l with ⟨_, h⟩ | ⟨x, h, hs, _⟩
  · rw [h]; exact LH
  · rw [h]; exact LU x hs
theorem QO (l : List UInt8) : 0 ≤ (decR l).2 ∧ (decR l).2 ≤ 70 := by
  unfold decR
  split
  · exact ⟨by decide, by decide⟩
  · split
    · exact ⟨by decide, by decide⟩
    · split
      · exact ⟨Int.le_refl 0, (by decide : (0 : Int) ≤ 70)⟩
      · exact ⟨by decide, by decide⟩
theorem zW {base : Nat} {x : SRec} {v : Value} {w : World} (h : RecV base x v w) : ∃ A3 a3 A4 a4 A6 a6 A9 a9, v = .agg #[.int .u8 x.f0, .int .u32 x.f1, .int .u32 x.f2, .slice A3 x.f3.length a3, .slice A4 x.f4.length a4, .int .u32 x.f5.f0, .slice A6 x.f5.f1.length a6, .int .i64 x.f6, .int .i64 x.f7, .slice A9 x.f8.length a9] ∧ Lies w x A3 a3 A4 a4 A6 a6 A9 a9 := by
  obtain ⟨v3, v4, v6, v9, rfl, g3, g4, g6, g9⟩ := h
  obtain ⟨B3, b3, rfl⟩ := Kd.R_slice g3
  obtain ⟨B4, b4, rfl⟩ := Kd.R_slice g4
  obtain ⟨B6, b6, rfl⟩ := Kd.R_slice g6
  obtain ⟨B9, b9, rfl⟩ := Kd.R_slice g9
  obtain ⟨_, q3, C3⟩ := Kd.R_reads' g3
  obtain ⟨_, q4, C4⟩ := Kd.R_reads' g4
  obtain ⟨_, q6, C6⟩ := Kd.R_reads' g6
  obtain ⟨_, q9, C9⟩ := Kd.R_reads' g9
  exact ⟨B3, b3, B4, b4, B6, b6, B9, b9, rfl, C3, q3, C4, q4, C6, q6, C9, q9⟩
attribute [-go_sem] Instr.build Instr.storeAt
set_option maxRecDepth 20000 in
set_option maxHeartbeats 8000000 in
theorem vJ (A : Option Addr) (c : Nat) (l : List UInt8) (w : World) (hCi : (Kd.int .u8).C w A l.length (nums l)) (hc : l.length ≤ c) :
    Calls Tryd.prog 5 #[.slice A l.length c] w fun e w' => e = .returned (.bool true) ∧ Below w.heap.size w w' := by
  have hknown := fun w => stratumlaw07_known.calls true w rfl
  have HC := iC.mk hCi
  clear hCi
  by_cases hl : (l.length : Int) > 3000
  · go_enter Tryd.func5, Tryd.ntmps5
    go_wp2_with fail
    go_at_call 16
    (with_reducible refine (hknown _).mono ?_)
    rintro e w1 ⟨rfl, hb1⟩
    clear hknown
    go_wp2
    go_ret
    exact ⟨rfl, hb1⟩
  · obtain ⟨⟨x, E⟩, hD⟩ : ∃ D, decR l = D := ⟨_, rfl⟩
    have hdec := fun w h => decode_any A c l w h hc
    have hrdec := fun w h => IL A c l w h hc
    have hsl := OG l
    have her := QO l
    rw [hD] at hdec hrdec hsl her
    have HS := iC.mk (NG hsl)
    have hE0 : 0 ≤ E := her.1
    have hE1 : E ≤ 70 := her.2
    have hwE : wrap64 E = E := by unfold wrap64; omega
    clear hD her hsl
    go_enter Tryd.func5, Tryd.ntmps5
    go_wp2_with fail
    go_at_call 16
    (with_reducible refine (hknown _).mono ?_)
    rintro e w1 ⟨rfl, hb1⟩
    have HB1 := iC.mk hb1
    have hcall := hdec w1 (Kd.C_below HC.out hb1)
    clear hb1 hknown hdec
    go_wp2_with fail
    go_at_call 22
    refine hcall.mono ?_
    rintro e w2 ⟨v, rfl, hv, hb2⟩
    obtain ⟨A3, a3, A4, a4, A6, a6, A9, a9, rfl, hL⟩ := zW hv
    dsimp only
    have hsx := fun (_ : True) => run_storeAt_new (P := Tryd.prog) w2 30 #[.int .u8 0, .int .u32 0, .int .u32 0, .slice none 0 0, .slice none 0 0, .int .u32 0, .slice none 0 0, .int .i64 0, .int .i64 0, .slice none 0 0] #[.int .u8 x.f0, .int .u32 x.f1, .int .u32 x.f2, .slice A3 x.f3.length a3, .slice A4 x.f4.length a4, .int .u32 x.f5.f0, .slice A6 x.f5.f1.length a6, .int .i64 x.f6, .int .i64 x.f7, .slice A9 x.f8.length a9] (by kernel_rfl) rfl (by simp [Value.oneCell'])
    obtain ⟨W2, hW2⟩ : ∃ W, W = w2.alloc (.cells #[.int .u8 x.f0, .int .u32 x.f1, .int .u32 x.f2, .slice A3 x.f3.length a3, .slice A4 x.f4.length a4, .int .u32 x.f5.f0, .slice A6 x.f5.f1.length a6, .int .i64 x.f6, .int .i64 x.f7, .slice A9 x.f8.length a9] 30) := ⟨_, rfl⟩
    have hbw : Below w2.heap.size w2 W2 := by rw [hW2]; exact iF (Below.refl _ _) _
    have HX2 := iC.mk (show W2.heap[w2.heap.size]? = some (.cells #[.int .u8 x.f0, .int .u32 x.f1, .int .u32 x.f2, .slice A3 x.f3.length a3, .slice A4 x.f4.length a4, .int .u32 x.f5.f0, .slice A6 x.f5.f1.length a6, .int .i64 x.f6, .int .i64 x.f7, .slice A9 x.f8.length a9] 30 (0, 0)) from by rw [hW2]; exact iT rfl)
    have HL2 := iC.mk (hL.below hbw)
    have HB2 := iC.mk (iI (iI HB1.out hb2) hbw)
    have HW2 := iC.mk hW2
    clear hcall hv hL hb2 hbw hW2 HB1
    go_upto_region 4 with fail
    rw [← HW2.out]
    clear hsx HW2
    have hcall := hrdec W2 (Kd.C_below HC.out HB2.out)
    clear hrdec HC
    go_wp2_with fail
    go_at_call 24
    refine hcall.mono ?_
    rintro e w3 ⟨B3, b3, B4, b4, B6, b6, B9, b9, rfl, hL, hb3⟩
    dsimp only at hL
    dsimp only
    have hsx := fun (_ : True) => run_storeAt_new (P := Tryd.prog) w3 30 #[.int .u8 0, .int .u32 0, .int .u32 0, .slice none 0 0, .slice none 0 0, .int .u32 0, .slice none 0 0, .int .i64 0, .int .i64 0, .slice none 0 0] #[.int .u8 x.f0, .int .u32 x.f1, .int .u32 x.f2, .slice B3 x.f3.length b3, .slice B4 x.f4.length b4, .int .u32 x.f5.f0, .slice B6 x.f5.f1.length b6, .int .i64 x.f6, .int .i64 x.f7, .slice B9 x.f8.length b9] (by kernel_rfl) rfl (by simp [Value.oneCell'])
    obtain ⟨W3, hW3⟩ : ∃ W, W = w3.alloc (.cells #[.int .u8 x.f0, .int .u32 x.f1, .int .u32 x.f2, .slice B3 x.f3.length b3, .slice B4 x.f4.length b4, .int .u32 x.f5.f0, .slice B6 x.f5.f1.length b6, .int .i64 x.f6, .int .i64 x.f7, .slice B9 x.f8.length b9] 30) := ⟨_, rfl⟩
    have hbw : Below w3.heap.size w3 W3 := by rw [hW3]; exact iF (Below.refl _ _) _
    have HY3 := iC.mk (show W3.heap[w3.heap.size]? = some (.cells #[.int .u8 x.f0, .int .u32 x.f1, .int .u32 x.f2, .slice B3 x.f3.length b3, .slice B4 x.f4.length b4, .int .u32 x.f5.f0, .slice B6 x.f5.f1.length b6, .int .i64 x.f6, .int .i64 x.f7, .slice B9 x.f8.length b9] 30 (0, 0)) from by rw [hW3]; exact iT rfl)
    have HX3 := iC.mk (iK hbw (iK hb3 HX2.out))
    have HM3 := iC.mk (hL.below hbw)
    have HL3 := iC.mk ((HL2.out.below hb3).below hbw)
    have HB3 := iC.mk (iI (iI HB2.out hb3) hbw)
    have HW3 := iC.mk hW3
    clear hcall hL hb3 hbw hW3 HB2 HX2 HL2
    go_upto_region 5 with fail
    rw [← HW3.out]
    clear hsx HW3
    have hcall := PN HL3.out HM3.out HS.out
    obtain ⟨wz0, wz1, wz2, wz3, wz4, wz5, wz6, wz7, wz8, wz9, wy0, wy1, wy2, wy3, wy4, wy5, wy6, wy7, wy8, wy9⟩ := ten (HX3.out)
    obtain ⟨xz0, xz1, xz2, xz3, xz4, xz5, xz6, xz7, xz8, xz9, xy0, xy1, xy2, xy3, xy4, xy5, xy6, xy7, xy8, xy9⟩ := ten (HY3.out)
    clear wy0 wy1 wy2 wy3 wy4 wy5 wy6 wy7 wy8 wy9 xy0 xy1 xy2 xy3 xy4 xy5 xy6 xy7 xy8 xy9
    go_wp2_with fail
    go_at_call 23
    refine hcall.mono ?_
    rintro e w4 ⟨rfl, hb4⟩
    clear hcall
    go_wp2
    go_ret
    exact ⟨by first | rfl | simp, iI HB3.out hb4⟩
theorem codeDecodes_walk (A : Option Addr) (c : Nat) (l : List Int) (W : World) (hC : (Kd.int .u8).C W A l.length l) (hc : l.length ≤ c) (hw : ∀ x ∈ l, 0 ≤ x ∧ x < 256) :
    Calls Tryd.prog 5 #[.slice A l.length c] W fun e w' => e = .returned (.bool true) ∧ Below W.heap.size W w' := by
  have hn : nums (bytesOf l) = l := by
    unfold nums bytesOf
    rw [List.map_map]
    conv => rhs; rw [← List.map_id l]
    apply List.map_congr_left
    intro x hx
    have hb := hw x hx
    simp only [Function.comp, id]
    rw [UInt8.toNat_ofNat']
    omega
  have hlen : (bytesOf l).length = l.length := by unfold bytesOf; simp
  have := vJ A c (bytesOf l) W (by rw [hn, hlen]; exact hC) (by omega)
  rwa [hlen] at this
end Go.Proofs.YtgfkgppomaapiaaDoor.K
end
