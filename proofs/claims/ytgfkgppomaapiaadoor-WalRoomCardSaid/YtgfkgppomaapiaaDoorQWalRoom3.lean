/- Parts of the proof, one behind the other: K10, CodeR, CodeS, RefB, K38, RefS, Buf, CodeL, CodeF, CodeE, K39, K40. -/
import Derived.Test.YtgfkgppomaapiaaDoorQWalRoom2
import Derived.Shelf.LaysM
import Derived.Shelf.Bytes.Len
import Derived.Shelf.Bytes.TryGrow
import Derived.Shelf.Bytes.GrowSliceCatch
import Derived.Shelf.Bytes.GrowSlice
import Derived.Shelf.Bytes.Bytes
import Derived.Shelf.Bytes.GrowRow0Kept
import Derived.Shelf.Bytes.GrowRowKept
import Derived.Shelf.Bytes.GrowNilKept
import Derived.Shelf.Bytes.GrowKept
import Derived.Shelf.Bytes.WriteByteKept
import Derived.Ground.SlgfProg
import Derived.Shelf.SlicesE.IndexFunc
import Derived.Lib.OthersKept
import Derived.Lib.BufferKept
import Derived.Lib.BufferWrite
set_option linter.unusedVariables false
set_option linter.unusedSimpArgs false
section
namespace Go.Proofs.YtgfkgppomaapiaaDoor.K
open Go.RowKit Go.Proofs.YtgfkgppomaapiaaDoorW.PrintWords Go.Proofs.YtgfkgppomaapiaaDoorW.PrintLast Go.Proofs.YtgfkgppomaapiaaDoorW.PrintMore
attribute [local go_sem] kE kC kN kL
def code_plain.f (a0_0 : Int) (a0_1 : Int) (a0_2 : Int) (l0_3 : List Int) (l0_4 : List (S139)) (a0_5 : Int) (l0_6 : List (S98)) (a0_7 : Int) (a0_8 : Int) (l0_9 : List (S86)) : Option (Bool) := if a0_0 = 0 then (if a0_1 = 0 then (if a0_2 = 0 then (if (l0_3.length : Int) = 0 then (if (l0_4.length : Int) = 0 then (if a0_5 = 0 then (if (l0_6.length : Int) = 0 then (if a0_7 = 0 then (if a0_8 = 0 then (some ((l0_9.length : Int) == 0)) else (some false)) else (some false)) else (some false)) else (some false)) else (some false)) else (some false)) else (some false)) else (some false)) else (some false)
set_option maxHeartbeats 8000000 in
set_option maxRecDepth 100000 in
theorem code_plain.calls (a0_0 : Int) (a0_1 : Int) (a0_2 : Int) (A0_3 : Option Addr) (c0_3 : Nat) (l0_3 : List Int) (A0_4 : Option Addr) (c0_4 : Nat) (l0_4 : List (S139)) (a0_5 : Int) (A0_6 : Option Addr) (c0_6 : Nat) (l0_6 : List (S98)) (a0_7 : Int) (a0_8 : Int) (A0_9 : Option Addr) (c0_9 : Nat) (l0_9 : List (S86)) (r : Bool) (w : World) (hr0_3 : Kd.C (Kd.int .i64) w A0_3 l0_3.length l0_3) (hc0_3 : l0_3.length ≤ c0_3) (hr0_4 : Kd.C k139 w A0_4 l0_4.length l0_4) (hc0_4 : l0_4.length ≤ c0_4) (hr0_6 : Kd.C k98 w A0_6 l0_6.length l0_6) (hc0_6 : l0_6.length ≤ c0_6) (hr0_9 : Kd.C k86 w A0_9 l0_9.length l0_9) (hc0_9 : l0_9.length ≤ c0_9) (h : code_plain.f a0_0 a0_1 a0_2 l0_3 l0_4 a0_5 l0_6 a0_7 a0_8 l0_9 = some r) :
    Calls Tryd.prog 67 #[.agg #[.int .u8 a0_0, .int .u32 a0_1, .int .u32 a0_2, .slice A0_3 l0_3.length c0_3, .slice A0_4 l0_4.length c0_4, .int .u32 a0_5, .slice A0_6 l0_6.length c0_6, .int .i64 a0_7, .int .i64 a0_8, .slice A0_9 l0_9.length c0_9]] w fun e w' => e = .returned (.bool r) ∧ Below w.heap.size w w' := by
  have hu30 := Tryd.underlying30
  have HR0_3 := iC.mk hr0_3
  have HC0_3 := iC.mk hc0_3
  clear hr0_3 hc0_3
  have HR0_4 := iC.mk hr0_4
  have HC0_4 := iC.mk hc0_4
  clear hr0_4 hc0_4
  have HR0_6 := iC.mk hr0_6
  have HC0_6 := iC.mk hc0_6
  clear hr0_6 hc0_6
  have HR0_9 := iC.mk hr0_9
  have HC0_9 := iC.mk hc0_9
  clear hr0_9 hc0_9
  have HB := iC.mk (Below.refl w.heap.size w)
  have H : (if a0_0 = 0 then (if a0_1 = 0 then (if a0_2 = 0 then (if (l0_3.length : Int) = 0 then (if (l0_4.length : Int) = 0 then (if a0_5 = 0 then (if (l0_6.length : Int) = 0 then (if a0_7 = 0 then (if a0_8 = 0 then (some ((l0_9.length : Int) == 0)) else (some false)) else (some false)) else (some false)) else (some false)) else (some false)) else (some false)) else (some false)) else (some false)) else (some false)) = some r := h
  clear h
  by_cases c2 : a0_0 = 0
  · rw [if_pos c2] at H
    have c2b0 : (a0_0 == 0) = true := beq_iff_eq.mpr c2
    have c2b1 : (a0_0 != 0) = false := bne_eq_false_iff_eq.mpr c2
    clear c2
    by_cases c3 : a0_1 = 0
    · rw [if_pos c3] at H
      have c3b0 : (a0_1 == 0) = true := beq_iff_eq.mpr c3
      have c3b1 : (a0_1 != 0) = false := bne_eq_false_iff_eq.mpr c3
      clear c3
      by_cases c4 : a0_2 = 0
      · rw [if_pos c4] at H
        have c4b0 : (a0_2 == 0) = true := beq_iff_eq.mpr c4
        have c4b1 : (a0_2 != 0) = false := bne_eq_false_iff_eq.mpr c4
        clear c4
        by_cases c5 : (l0_3.length : Int) = 0
        · rw [if_pos c5] at H
          have c5b0 : ((l0_3.length : Int) == 0) = true := beq_iff_eq.mpr c5
          have c5b1 : ((l0_3.length : Int) != 0) = false := bne_eq_false_iff_eq.mpr c5
          clear c5
          by_cases c6 : (l0_4.length : Int) = 0
          · rw [if_pos c6] at H
            have c6b0 : ((l0_4.length : Int) == 0) = true := beq_iff_eq.mpr c6
            have c6b1 : ((l0_4.length : Int) != 0) = false := bne_eq_false_iff_eq.mpr c6
            clear c6
            by_cases c7 : a0_5 = 0
            · rw [if_pos c7] at H
              have c7b0 : (a0_5 == 0) = true := beq_iff_eq.mpr c7
              have c7b1 : (a0_5 != 0) = false := bne_eq_false_iff_eq.mpr c7
              clear c7
              by_cases c8 : (l0_6.length : Int) = 0
              · rw [if_pos c8] at H
                have c8b0 : ((l0_6.length : Int) == 0) = true := beq_iff_eq.mpr c8
                have c8b1 : ((l0_6.length : Int) != 0) = false := bne_eq_false_iff_eq.mpr c8
                clear c8
                by_cases c9 : a0_7 = 0
                · rw [if_pos c9] at H
                  have c9b0 : (a0_7 == 0) = true := beq_iff_eq.mpr c9
                  have c9b1 : (a0_7 != 0) = false := bne_eq_false_iff_eq.mpr c9
                  clear c9
                  by_cases c10 : a0_8 = 0
                  · rw [if_pos c10] at H
                    have c10b0 : (a0_8 == 0) = true := beq_iff_eq.mpr c10
                    have c10b1 : (a0_8 != 0) = false := bne_eq_false_iff_eq.mpr c10
                    clear c10
                    obtain rfl := Option.some.inj H
                    go_enter Tryd.func67, Tryd.ntmps67
                    go_wp2_with (first | ((with_reducible refine jV (N := 1) rfl ?_); (try (refine kH (by rfl) ?_; dsimp only)); refine jQ ?hg (N := 1) ?hd (cs := #[.int .u8 a0_0, .int .u32 a0_1, .int .u32 a0_2, .slice A0_3 l0_3.length c0_3, .slice A0_4 l0_4.length c0_4, .int .u32 a0_5, .slice A0_6 l0_6.length c0_6, .int .i64 a0_7, .int .i64 a0_8, .slice A0_9 l0_9.length c0_9]) (t := 30) ?hr ?_; (case hd => rfl); (case hg => rfl); (case hr => first | (go_simp; done) | (go_simp; rfl)); intro gb111 hg w11 hbox hb; have n0_ := iC.mk (iK hb_ hb); have n1_ := iC.mk (hbox); have n2_ := iC.mk ((by rw [hg]; exact (iP hb_) : w.heap.size ≤ gb111)); have n3_ := iC.mk ((by rw [hg]; exact (iP hb_) : w.heap.size ≤ gb111)); clear HB; have HB := n0_; have BK111 := n1_; have GW111 := n2_; have GE111 := n3_; clear n0_ n1_ n2_ n3_; clear hb hbox hg; have hcz12_0 : w11.cell? ⟨gb111, 0, none⟩ = some (.int .u8 a0_0) := (iE BK111.out 0).trans rfl; have hcz12_1 : w11.cell? ⟨gb111, 1, none⟩ = some (.int .u32 a0_1) := (iE BK111.out 1).trans rfl; have hcz12_2 : w11.cell? ⟨gb111, 2, none⟩ = some (.int .u32 a0_2) := (iE BK111.out 2).trans rfl; have hcz12_3 : w11.cell? ⟨gb111, 3, none⟩ = some (.slice A0_3 l0_3.length c0_3) := (iE BK111.out 3).trans rfl; have hcz12_4 : w11.cell? ⟨gb111, 4, none⟩ = some (.slice A0_4 l0_4.length c0_4) := (iE BK111.out 4).trans rfl; have hcz12_5 : w11.cell? ⟨gb111, 5, none⟩ = some (.int .u32 a0_5) := (iE BK111.out 5).trans rfl; have hcz12_6 : w11.cell? ⟨gb111, 6, none⟩ = some (.slice A0_6 l0_6.length c0_6) := (iE BK111.out 6).trans rfl; have hcz12_7 : w11.cell? ⟨gb111, 7, none⟩ = some (.int .i64 a0_7) := (iE BK111.out 7).trans rfl; have hcz12_8 : w11.cell? ⟨gb111, 8, none⟩ = some (.int .i64 a0_8) := (iE BK111.out 8).trans rfl; have hcz12_9 : w11.cell? ⟨gb111, 9, none⟩ = some (.slice A0_9 l0_9.length c0_9) := (iE BK111.out 9).trans rfl; have hfz12_0 := iD BK111.out 0; have hfz12_1 := iD BK111.out 1; have hfz12_2 := iD BK111.out 2; have hfz12_3 := iD BK111.out 3; have hfz12_4 := iD BK111.out 4; have hfz12_5 := iD BK111.out 5; have hfz12_6 := iD BK111.out 6; have hfz12_7 := iD BK111.out 7; have hfz12_8 := iD BK111.out 8; have hfz12_9 := iD BK111.out 9))
                    go_ret
                    exact ⟨by first | rfl | (simp [iV, iU] <;> rfl) | (simp [*, iV, iU] <;> rfl), by repeat (first | (with_reducible first | exact HB.out | apply iG | apply iF | apply iJ | refine iH ?_ GE111.out) | exact HB.out)⟩
                  · rw [if_neg c10] at H
                    have c10b0 : (a0_8 == 0) = false := beq_eq_false_iff_ne.mpr c10
                    have c10b1 : (a0_8 != 0) = true := bne_iff_ne.mpr c10
                    obtain rfl := Option.some.inj H
                    go_enter Tryd.func67, Tryd.ntmps67
                    go_wp2_with (first | ((with_reducible refine jV (N := 1) rfl ?_); (try (refine kH (by rfl) ?_; dsimp only)); refine jQ ?hg (N := 1) ?hd (cs := #[.int .u8 a0_0, .int .u32 a0_1, .int .u32 a0_2, .slice A0_3 l0_3.length c0_3, .slice A0_4 l0_4.length c0_4, .int .u32 a0_5, .slice A0_6 l0_6.length c0_6, .int .i64 a0_7, .int .i64 a0_8, .slice A0_9 l0_9.length c0_9]) (t := 30) ?hr ?_; (case hd => rfl); (case hg => rfl); (case hr => first | (go_simp; done) | (go_simp; rfl)); intro gb111 hg w13 hbox hb; have n0_ := iC.mk (iK hb_ hb); have n1_ := iC.mk (hbox); have n2_ := iC.mk ((by rw [hg]; exact (iP hb_) : w.heap.size ≤ gb111)); have n3_ := iC.mk ((by rw [hg]; exact (iP hb_) : w.heap.size ≤ gb111)); clear HB; have HB := n0_; have BK111 := n1_; have GW111 := n2_; have GE111 := n3_; clear n0_ n1_ n2_ n3_; clear hb hbox hg; have hcz14_0 : w13.cell? ⟨gb111, 0, none⟩ = some (.int .u8 a0_0) := (iE BK111.out 0).trans rfl; have hcz14_1 : w13.cell? ⟨gb111, 1, none⟩ = some (.int .u32 a0_1) := (iE BK111.out 1).trans rfl; have hcz14_2 : w13.cell? ⟨gb111, 2, none⟩ = some (.int .u32 a0_2) := (iE BK111.out 2).trans rfl; have hcz14_3 : w13.cell? ⟨gb111, 3, none⟩ = some (.slice A0_3 l0_3.length c0_3) := (iE BK111.out 3).trans rfl; have hcz14_4 : w13.cell? ⟨gb111, 4, none⟩ = some (.slice A0_4 l0_4.length c0_4) := (iE BK111.out 4).trans rfl; have hcz14_5 : w13.cell? ⟨gb111, 5, none⟩ = some (.int .u32 a0_5) := (iE BK111.out 5).trans rfl; have hcz14_6 : w13.cell? ⟨gb111, 6, none⟩ = some (.slice A0_6 l0_6.length c0_6) := (iE BK111.out 6).trans rfl; have hcz14_7 : w13.cell? ⟨gb111, 7, none⟩ = some (.int .i64 a0_7) := (iE BK111.out 7).trans rfl; have hcz14_8 : w13.cell? ⟨gb111, 8, none⟩ = some (.int .i64 a0_8) := (iE BK111.out 8).trans rfl; have hcz14_9 : w13.cell? ⟨gb111, 9, none⟩ = some (.slice A0_9 l0_9.length c0_9) := (iE BK111.out 9).trans rfl; have hfz14_0 := iD BK111.out 0; have hfz14_1 := iD BK111.out 1; have hfz14_2 := iD BK111.out 2; have hfz14_3 := iD BK111.out 3; have hfz14_4 := iD BK111.out 4; have hfz14_5 := iD BK111.out 5; have hfz14_6 := iD BK111.out 6; have hfz14_7 := iD BK111.out 7; have hfz14_8 := iD BK111.out 8; have hfz14_9 := iD BK111.out 9))
                    go_ret
                    exact ⟨by first | rfl | (simp [iV, iU] <;> rfl) | (simp [*, iV, iU] <;> rfl), by repeat (first | (with_reducible first | exact HB.out | apply iG | apply iF | apply iJ | refine iH ?_ GE111.out) | exact HB.out)⟩
                · rw [if_neg c9] at H
                  have c9b0 : (a0_7 == 0) = false := beq_eq_false_iff_ne.mpr c9
                  have c9b1 : (a0_7 != 0) = true := bne_iff_ne.mpr c9
                  obtain rfl := Option.some.inj H
                  go_enter Tryd.func67, Tryd.ntmps67
                  go_wp2_with (first | ((with_reducible refine jV (N := 1) rfl ?_); (try (refine kH (by rfl) ?_; dsimp only)); refine jQ ?hg (N := 1) ?hd (cs := #[.int .u8 a0_0, .int .u32 a0_1, .int .u32 a0_2, .slice A0_3 l0_3.length c0_3, .slice A0_4 l0_4.length c0_4, .int .u32 a0_5, .slice A0_6 l0_6.length c0_6, .int .i64 a0_7, .int .i64 a0_8, .slice A0_9 l0_9.length c0_9]) (t := 30) ?hr ?_; (case hd => rfl); (case hg => rfl); (case hr => first | (go_simp; done) | (go_simp; rfl)); intro gb111 hg w15 hbox hb; have n0_ := iC.mk (iK hb_ hb); have n1_ := iC.mk (hbox); have n2_ := iC.mk ((by rw [hg]; exact (iP hb_) : w.heap.size ≤ gb111)); have n3_ := iC.mk ((by rw [hg]; exact (iP hb_) : w.heap.size ≤ gb111)); clear HB; have HB := n0_; have BK111 := n1_; have GW111 := n2_; have GE111 := n3_; clear n0_ n1_ n2_ n3_; clear hb hbox hg; have hcz16_0 : w15.cell? ⟨gb111, 0, none⟩ = some (.int .u8 a0_0) := (iE BK111.out 0).trans rfl; have hcz16_1 : w15.cell? ⟨gb111, 1, none⟩ = some (.int .u32 a0_1) := (iE BK111.out 1).trans rfl; have hcz16_2 : w15.cell? ⟨gb111, 2, none⟩ = some (.int .u32 a0_2) := (iE BK111.out 2).trans rfl; have hcz16_3 : w15.cell? ⟨gb111, 3, none⟩ = some (.slice A0_3 l0_3.length c0_3) := (iE BK111.out 3).trans rfl; have hcz16_4 : w15.cell? ⟨gb111, 4, none⟩ = some (.slice A0_4 l0_4.length c0_4) := (iE BK111.out 4).trans rfl; have hcz16_5 : w15.cell? ⟨gb111, 5, none⟩ = some (.int .u32 a0_5) := (iE BK111.out 5).trans rfl; have hcz16_6 : w15.cell? ⟨gb111, 6, none⟩ = some (.slice A0_6 l0_6.length c0_6) := (iE BK111.out 6).trans rfl; have hcz16_7 : w15.cell? ⟨gb111, 7, none⟩ = some (.int .i64 a0_7) := (iE BK111.out 7).trans rfl; have hcz16_8 : w15.cell? ⟨gb111, 8, none⟩ = some (.int .i64 a0_8) := (iE BK111.out 8).trans rfl; have hcz16_9 : w15.cell? ⟨gb111, 9, none⟩ = some (.slice A0_9 l0_9.length c0_9) := (iE BK111.out 9).trans rfl; have hfz16_0 := iD BK111.out 0; have hfz16_1 := iD BK111.out 1; have hfz16_2 := iD BK111.out 2; have hfz16_3 := iD BK111.out 3; have hfz16_4 := iD BK111.out 4; have hfz16_5 := iD BK111.out 5; have hfz16_6 := iD BK111.out 6; have hfz16_7 := iD BK111.out 7; have hfz16_8 := iD BK111.out 8; have hfz16_9 := iD BK111.out 9))
                  go_ret
                  exact ⟨by first | rfl | (simp [iV, iU] <;> rfl) | (simp [*, iV, iU] <;> rfl), by repeat (first | (with_reducible first | exact HB.out | apply iG | apply iF | apply iJ | refine iH ?_ GE111.out) | exact HB.out)⟩
              · rw [if_neg c8] at H
                have c8b0 : ((l0_6.length : Int) == 0) = false := beq_eq_false_iff_ne.mpr c8
                have c8b1 : ((l0_6.length : Int) != 0) = true := bne_iff_ne.mpr c8
                have c8b2 : ¬ (l0_6 = []) := fun h_ => c8 (by rw [h_]; rfl)
                obtain rfl := Option.some.inj H
                go_enter Tryd.func67, Tryd.ntmps67
                go_wp2_with (first | ((with_reducible refine jV (N := 1) rfl ?_); (try (refine kH (by rfl) ?_; dsimp only)); refine jQ ?hg (N := 1) ?hd (cs := #[.int .u8 a0_0, .int .u32 a0_1, .int .u32 a0_2, .slice A0_3 l0_3.length c0_3, .slice A0_4 l0_4.length c0_4, .int .u32 a0_5, .slice A0_6 l0_6.length c0_6, .int .i64 a0_7, .int .i64 a0_8, .slice A0_9 l0_9.length c0_9]) (t := 30) ?hr ?_; (case hd => rfl); (case hg => rfl); (case hr => first | (go_simp; done) | (go_simp; rfl)); intro gb111 hg w17 hbox hb; have n0_ := iC.mk (iK hb_ hb); have n1_ := iC.mk (hbox); have n2_ := iC.mk ((by rw [hg]; exact (iP hb_) : w.heap.size ≤ gb111)); have n3_ := iC.mk ((by rw [hg]; exact (iP hb_) : w.heap.size ≤ gb111)); clear HB; have HB := n0_; have BK111 := n1_; have GW111 := n2_; have GE111 := n3_; clear n0_ n1_ n2_ n3_; clear hb hbox hg; have hcz18_0 : w17.cell? ⟨gb111, 0, none⟩ = some (.int .u8 a0_0) := (iE BK111.out 0).trans rfl; have hcz18_1 : w17.cell? ⟨gb111, 1, none⟩ = some (.int .u32 a0_1) := (iE BK111.out 1).trans rfl; have hcz18_2 : w17.cell? ⟨gb111, 2, none⟩ = some (.int .u32 a0_2) := (iE BK111.out 2).trans rfl; have hcz18_3 : w17.cell? ⟨gb111, 3, none⟩ = some (.slice A0_3 l0_3.length c0_3) := (iE BK111.out 3).trans rfl; have hcz18_4 : w17.cell? ⟨gb111, 4, none⟩ = some (.slice A0_4 l0_4.length c0_4) := (iE BK111.out 4).trans rfl; have hcz18_5 : w17.cell? ⟨gb111, 5, none⟩ = some (.int .u32 a0_5) := (iE BK111.out 5).trans rfl; have hcz18_6 : w17.cell? ⟨gb111, 6, none⟩ = some (.slice A0_6 l0_6.length c0_6) := (iE BK111.out 6).trans rfl; have hcz18_7 : w17.cell? ⟨gb111, 7, none⟩ = some (.int .i64 a0_7) := (iE BK111.out 7).trans rfl; have hcz18_8 : w17.cell? ⟨gb111, 8, none⟩ = some (.int .i64 a0_8) := (iE BK111.out 8).trans rfl; have hcz18_9 : w17.cell? ⟨gb111, 9, none⟩ = some (.slice A0_9 l0_9.length c0_9) := (iE BK111.out 9).trans rfl; have hfz18_0 := iD BK111.out 0; have hfz18_1 := iD BK111.out 1; have hfz18_2 := iD BK111.out 2; have hfz18_3 := iD BK111.out 3; have hfz18_4 := iD BK111.out 4; have hfz18_5 := iD BK111.out 5; have hfz18_6 := iD BK111.out 6; have hfz18_7 := iD BK111.out 7; have hfz18_8 := iD BK111.out 8; have hfz18_9 := iD BK111.out 9))
                go_ret
                exact ⟨by first | rfl | (simp [iV, iU] <;> rfl) | (simp [*, iV, iU] <;> rfl), by repeat (first | (with_reducible first | exact HB.out | apply iG | apply iF | apply iJ | refine iH ?_ GE111.out) | exact HB.out)⟩
            · rw [if_neg c7] at H
              have c7b0 : (a0_5 == 0) = false := beq_eq_false_iff_ne.mpr c7
              have c7b1 : (a0_5 != 0) = true := bne_iff_ne.mpr c7
              obtain rfl := Option.some.inj H
              go_enter Tryd.func67, Tryd.ntmps67
              go_wp2_with (first | ((with_reducible refine jV (N := 1) rfl ?_); (try (refine kH (by rfl) ?_; dsimp only)); refine jQ ?hg (N := 1) ?hd (cs := #[.int .u8 a0_0, .int .u32 a0_1, .int .u32 a0_2, .slice A0_3 l0_3.length c0_3, .slice A0_4 l0_4.length c0_4, .int .u32 a0_5, .slice A0_6 l0_6.length c0_6, .int .i64 a0_7, .int .i64 a0_8, .slice A0_9 l0_9.length c0_9]) (t := 30) ?hr ?_; (case hd => rfl); (case hg => rfl); (case hr => first | (go_simp; done) | (go_simp; rfl)); intro gb111 hg w19 hbox hb; have n0_ := iC.mk (iK hb_ hb); have n1_ := iC.mk (hbox); have n2_ := iC.mk ((by rw [hg]; exact (iP hb_) : w.heap.size ≤ gb111)); have n3_ := iC.mk ((by rw [hg]; exact (iP hb_) : w.heap.size ≤ gb111)); clear HB; have HB := n0_; have BK111 := n1_; have GW111 := n2_; have GE111 := n3_; clear n0_ n1_ n2_ n3_; clear hb hbox hg; have hcz20_0 : w19.cell? ⟨gb111, 0, none⟩ = some (.int .u8 a0_0) := (iE BK111.out 0).trans rfl; have hcz20_1 : w19.cell? ⟨gb111, 1, none⟩ = some (.int .u32 a0_1) := (iE BK111.out 1).trans rfl; have hcz20_2 : w19.cell? ⟨gb111, 2, none⟩ = some (.int .u32 a0_2) := (iE BK111.out 2).trans rfl; have hcz20_3 : w19.cell? ⟨gb111, 3, none⟩ = some (.slice A0_3 l0_3.length c0_3) := (iE BK111.out 3).trans rfl; have hcz20_4 : w19.cell? ⟨gb111, 4, none⟩ = some (.slice A0_4 l0_4.length c0_4) := (iE BK111.out 4).trans rfl; have hcz20_5 : w19.cell? ⟨gb111, 5, none⟩ = some (.int .u32 a0_5) := (iE BK111.out 5).trans rfl; have hcz20_6 : w19.cell? ⟨gb111, 6, none⟩ = some (.slice A0_6 l0_6.length c0_6) := (iE BK111.out 6).trans rfl; have hcz20_7 : w19.cell? ⟨gb111, 7, none⟩ = some (.int .i64 a0_7) := (iE BK111.out 7).trans rfl; have hcz20_8 : w19.cell? ⟨gb111, 8, none⟩ = some (.int .i64 a0_8) := (iE BK111.out 8).trans rfl; have hcz20_9 : w19.cell? ⟨gb111, 9, none⟩ = some (.slice A0_9 l0_9.length c0_9) := (iE BK111.out 9).trans rfl; have hfz20_0 := iD BK111.out 0; have hfz20_1 := iD BK111.out 1; have hfz20_2 := iD BK111.out 2; have hfz20_3 := iD BK111.out 3; have hfz20_4 := iD BK111.out 4; have hfz20_5 := iD BK111.out 5; have hfz20_6 := iD BK111.out 6; have hfz20_7 := iD BK111.out 7; have hfz20_8 := iD BK111.out 8; have hfz20_9 := iD BK111.out 9))
              go_ret
              exact ⟨by first | rfl | (simp [iV, iU] <;> rfl) | (simp [*, iV, iU] <;> rfl), by repeat (first | (with_reducible first | exact HB.out | apply iG | apply iF | apply iJ | refine iH ?_ GE111.out) | exact HB.out)⟩
          · rw [if_neg c6] at H
            have c6b0 : ((l0_4.length : Int) == 0) = false := beq_eq_false_iff_ne.mpr c6
            have c6b1 : ((l0_4.length : Int) != 0) = true := bne_iff_ne.mpr c6
            have c6b2 : ¬ (l0_4 = []) := fun h_ => c6 (by rw [h_]; rfl)
            obtain rfl := Option.some.inj H
            go_enter Tryd.func67, Tryd.ntmps67
            go_wp2_with (first | ((with_reducible refine jV (N := 1) rfl ?_); (try (refine kH (by rfl) ?_; dsimp only)); refine jQ ?hg (N := 1) ?hd (cs := #[.int .u8 a0_0, .int .u32 a0_1, .int .u32 a0_2, .slice A0_3 l0_3.length c0_3, .slice A0_4 l0_4.length c0_4, .int .u32 a0_5, .slice A0_6 l0_6.length c0_6, .int .i64 a0_7, .int .i64 a0_8, .slice A0_9 l0_9.length c0_9]) (t := 30) ?hr ?_; (case hd => rfl); (case hg => rfl); (case hr => first | (go_simp; done) | (go_simp; rfl)); intro gb111 hg w21 hbox hb; have n0_ := iC.mk (iK hb_ hb); have n1_ := iC.mk (hbox); have n2_ := iC.mk ((by rw [hg]; exact (iP hb_) : w.heap.size ≤ gb111)); have n3_ := iC.mk ((by rw [hg]; exact (iP hb_) : w.heap.size ≤ gb111)); clear HB; have HB := n0_; have BK111 := n1_; have GW111 := n2_; have GE111 := n3_; clear n0_ n1_ n2_ n3_; clear hb hbox hg; have hcz22_0 : w21.cell? ⟨gb111, 0, none⟩ = some (.int .u8 a0_0) := (iE BK111.out 0).trans rfl; have hcz22_1 : w21.cell? ⟨gb111, 1, none⟩ = some (.int .u32 a0_1) := (iE BK111.out 1).trans rfl; have hcz22_2 : w21.cell? ⟨gb111, 2, none⟩ = some (.int .u32 a0_2) := (iE BK111.out 2).trans rfl; have hcz22_3 : w21.cell? ⟨gb111, 3, none⟩ = some (.slice A0_3 l0_3.length c0_3) := (iE BK111.out 3).trans rfl; have hcz22_4 : w21.cell? ⟨gb111, 4, none⟩ = some (.slice A0_4 l0_4.length c0_4) := (iE BK111.out 4).trans rfl; have hcz22_5 : w21.cell? ⟨gb111, 5, none⟩ = some (.int .u32 a0_5) := (iE BK111.out 5).trans rfl; have hcz22_6 : w21.cell? ⟨gb111, 6, none⟩ = some (.slice A0_6 l0_6.length c0_6) := (iE BK111.out 6).trans rfl; have hcz22_7 : w21.cell? ⟨gb111, 7, none⟩ = some (.int .i64 a0_7) := (iE BK111.out 7).trans rfl; have hcz22_8 : w21.cell? ⟨gb111, 8, none⟩ = some (.int .i64 a0_8) := (iE BK111.out 8).trans rfl; have hcz22_9 : w21.cell? ⟨gb111, 9, none⟩ = some (.slice A0_9 l0_9.length c0_9) := (iE BK111.out 9).trans rfl; have hfz22_0 := iD BK111.out 0; have hfz22_1 := iD BK111.out 1; have hfz22_2 := iD BK111.out 2; have hfz22_3 := iD BK111.out 3; have hfz22_4 := iD BK111.out 4; have hfz22_5 := iD BK111.out 5; have hfz22_6 := iD BK111.out 6; have hfz22_7 := iD BK111.out 7; have hfz22_8 := iD BK111.out 8; have hfz22_9 := iD BK111.out 9))
            go_ret
            exact ⟨by first | rfl | (simp [iV, iU] <;> rfl) | (simp [*, iV, iU] <;> rfl), by repeat (first | (with_reducible first | exact HB.out | apply iG | apply iF | apply iJ | refine iH ?_ GE111.out) | exact HB.out)⟩
        · rw [if_neg c5] at H
          have c5b0 : ((l0_3.length : Int) == 0) = false := beq_eq_false_iff_ne.mpr c5
          have c5b1 : ((l0_3.length : Int) != 0) = true := bne_iff_ne.mpr c5
          have c5b2 : ¬ (l0_3 = []) := fun h_ => c5 (by rw [h_]; rfl)
          obtain rfl := Option.some.inj H
          go_enter Tryd.func67, Tryd.ntmps67
          go_wp2_with (first | ((with_reducible refine jV (N := 1) rfl ?_); (try (refine kH (by rfl) ?_; dsimp only)); refine jQ ?hg (N := 1) ?hd (cs := #[.int .u8 a0_0, .int .u32 a0_1, .int .u32 a0_2, .slice A0_3 l0_3.length c0_3, .slice A0_4 l0_4.length c0_4, .int .u32 a0_5, .slice A0_6 l0_6.length c0_6, .int .i64 a0_7, .int .i64 a0_8, .slice A0_9 l0_9.length c0_9]) (t := 30) ?hr ?_; (case hd => rfl); (case hg => rfl); (case hr => first | (go_simp; done) | (go_simp; rfl)); intro gb111 hg w23 hbox hb; have n0_ := iC.mk (iK hb_ hb); have n1_ := iC.mk (hbox); have n2_ := iC.mk ((by rw [hg]; exact (iP hb_) : w.heap.size ≤ gb111)); have n3_ := iC.mk ((by rw [hg]; exact (iP hb_) : w.heap.size ≤ gb111)); clear HB; have HB := n0_; have BK111 := n1_; have GW111 := n2_; have GE111 := n3_; clear n0_ n1_ n2_ n3_; clear hb hbox hg; have hcz24_0 : w23.cell? ⟨gb111, 0, none⟩ = some (.int .u8 a0_0) := (iE BK111.out 0).trans rfl; have hcz24_1 : w23.cell? ⟨gb111, 1, none⟩ = some (.int .u32 a0_1) := (iE BK111.out 1).trans rfl; have hcz24_2 : w23.cell? ⟨gb111, 2, none⟩ = some (.int .u32 a0_2) := (iE BK111.out 2).trans rfl; have hcz24_3 : w23.cell? ⟨gb111, 3, none⟩ = some (.slice A0_3 l0_3.length c0_3) := (iE BK111.out 3).trans rfl; have hcz24_4 : w23.cell? ⟨gb111, 4, none⟩ = some (.slice A0_4 l0_4.length c0_4) := (iE BK111.out 4).trans rfl; have hcz24_5 : w23.cell? ⟨gb111, 5, none⟩ = some (.int .u32 a0_5) := (iE BK111.out 5).trans rfl; have hcz24_6 : w23.cell? ⟨gb111, 6, none⟩ = some (.slice A0_6 l0_6.length c0_6) := (iE BK111.out 6).trans rfl; have hcz24_7 : w23.cell? ⟨gb111, 7, none⟩ = some (.int .i64 a0_7) := (iE BK111.out 7).trans rfl; have hcz24_8 : w23.cell? ⟨gb111, 8, none⟩ = some (.int .i64 a0_8) := (iE BK111.out 8).trans rfl; have hcz24_9 : w23.cell? ⟨gb111, 9, none⟩ = some (.slice A0_9 l0_9.length c0_9) := (iE BK111.out 9).trans rfl; have hfz24_0 := iD BK111.out 0; have hfz24_1 := iD BK111.out 1; have hfz24_2 := iD BK111.out 2; have hfz24_3 := iD BK111.out 3; have hfz24_4 := iD BK111.out 4; have hfz24_5 := iD BK111.out 5; have hfz24_6 := iD BK111.out 6; have hfz24_7 := iD BK111.out 7; have hfz24_8 := iD BK111.out 8; have hfz24_9 := iD BK111.out 9))
          go_ret
          exact ⟨by first | rfl | (simp [iV, iU] <;> rfl) | (simp [*, iV, iU] <;> rfl), by repeat (first | (with_reducible first | exact HB.out | apply iG | apply iF | apply iJ | refine iH ?_ GE111.out) | exact HB.out)⟩
      · rw [if_neg c4] at H
        have c4b0 : (a0_2 == 0) = false := beq_eq_false_iff_ne.mpr c4
        have c4b1 : (a0_2 != 0) = true := bne_iff_ne.mpr c4
        obtain rfl := Option.some.inj H
        go_enter Tryd.func67, Tryd.ntmps67
        go_wp2_with (first | ((with_reducible refine jV (N := 1) rfl ?_); (try (refine kH (by rfl) ?_; dsimp only)); refine jQ ?hg (N := 1) ?hd (cs := #[.int .u8 a0_0, .int .u32 a0_1, .int .u32 a0_2, .slice A0_3 l0_3.length c0_3, .slice A0_4 l0_4.length c0_4, .int .u32 a0_5, .slice A0_6 l0_6.length c0_6, .int .i64 a0_7, .int .i64 a0_8, .slice A0_9 l0_9.length c0_9]) (t := 30) ?hr ?_; (case hd => rfl); (case hg => rfl); (case hr => first | (go_simp; done) | (go_simp; rfl)); intro gb111 hg w25 hbox hb; have n0_ := iC.mk (iK hb_ hb); have n1_ := iC.mk (hbox); have n2_ := iC.mk ((by rw [hg]; exact (iP hb_) : w.heap.size ≤ gb111)); have n3_ := iC.mk ((by rw [hg]; exact (iP hb_) : w.heap.size ≤ gb111)); clear HB; have HB := n0_; have BK111 := n1_; have GW111 := n2_; have GE111 := n3_; clear n0_ n1_ n2_ n3_; clear hb hbox hg; have hcz26_0 : w25.cell? ⟨gb111, 0, none⟩ = some (.int .u8 a0_0) := (iE BK111.out 0).trans rfl; have hcz26_1 : w25.cell? ⟨gb111, 1, none⟩ = some (.int .u32 a0_1) := (iE BK111.out 1).trans rfl; have hcz26_2 : w25.cell? ⟨gb111, 2, none⟩ = some (.int .u32 a0_2) := (iE BK111.out 2).trans rfl; have hcz26_3 : w25.cell? ⟨gb111, 3, none⟩ = some (.slice A0_3 l0_3.length c0_3) := (iE BK111.out 3).trans rfl; have hcz26_4 : w25.cell? ⟨gb111, 4, none⟩ = some (.slice A0_4 l0_4.length c0_4) := (iE BK111.out 4).trans rfl; have hcz26_5 : w25.cell? ⟨gb111, 5, none⟩ = some (.int .u32 a0_5) := (iE BK111.out 5).trans rfl; have hcz26_6 : w25.cell? ⟨gb111, 6, none⟩ = some (.slice A0_6 l0_6.length c0_6) := (iE BK111.out 6).trans rfl; have hcz26_7 : w25.cell? ⟨gb111, 7, none⟩ = some (.int .i64 a0_7) := (iE BK111.out 7).trans rfl; have hcz26_8 : w25.cell? ⟨gb111, 8, none⟩ = some (.int .i64 a0_8) := (iE BK111.out 8).trans rfl; have hcz26_9 : w25.cell? ⟨gb111, 9, none⟩ = some (.slice A0_9 l0_9.length c0_9) := (iE BK111.out 9).trans rfl; have hfz26_0 := iD BK111.out 0; have hfz26_1 := iD BK111.out 1; have hfz26_2 := iD BK111.out 2; have hfz26_3 := iD BK111.out 3; have hfz26_4 := iD BK111.out 4; have hfz26_5 := iD BK111.out 5; have hfz26_6 := iD BK111.out 6; have hfz26_7 := iD BK111.out 7; have hfz26_8 := iD BK111.out 8; have hfz26_9 := iD BK111.out 9))
        go_ret
        exact ⟨by first | rfl | (simp [iV, iU] <;> rfl) | (simp [*, iV, iU] <;> rfl), by repeat (first | (with_reducible first | exact HB.out | apply iG | apply iF | apply iJ | refine iH ?_ GE111.out) | exact HB.out)⟩
    · rw [if_neg c3] at H
      have c3b0 : (a0_1 == 0) = false := beq_eq_false_iff_ne.mpr c3
      have c3b1 : (a0_1 != 0) = true := bne_iff_ne.mpr c3
      obtain rfl := Option.some.inj H
      go_enter Tryd.func67, Tryd.ntmps67
      go_wp2_with (first | ((with_reducible refine jV (N := 1) rfl ?_); (try (refine kH (by rfl) ?_; dsimp only)); refine jQ ?hg (N := 1) ?hd (cs := #[.int .u8 a0_0, .int .u32 a0_1, .int .u32 a0_2, .slice A0_3 l0_3.length c0_3, .slice A0_4 l0_4.length c0_4, .int .u32 a0_5, .slice A0_6 l0_6.length c0_6, .int .i64 a0_7, .int .i64 a0_8, .slice A0_9 l0_9.length c0_9]) (t := 30) ?hr ?_; (case hd => rfl); (case hg => rfl); (case hr => first | (go_simp; done) | (go_simp; rfl)); intro gb111 hg w27 hbox hb; have n0_ := iC.mk (iK hb_ hb); have n1_ := iC.mk (hbox); have n2_ := iC.mk ((by rw [hg]; exact (iP hb_) : w.heap.size ≤ gb111)); have n3_ := iC.mk ((by rw [hg]; exact (iP hb_) : w.heap.size ≤ gb111)); clear HB; have HB := n0_; have BK111 := n1_; have GW111 := n2_; have GE111 := n3_; clear n0_ n1_ n2_ n3_; clear hb hbox hg; have hcz28_0 : w27.cell? ⟨gb111, 0, none⟩ = some (.int .u8 a0_0) := (iE BK111.out 0).trans rfl; have hcz28_1 : w27.cell? ⟨gb111, 1, none⟩ = some (.int .u32 a0_1) := (iE BK111.out 1).trans rfl; have hcz28_2 : w27.cell? ⟨gb111, 2, none⟩ = some (.int .u32 a0_2) := (iE BK111.out 2).trans rfl; have hcz28_3 : w27.cell? ⟨gb111, 3, none⟩ = some (.slice A0_3 l0_3.length c0_3) := (iE BK111.out 3).trans rfl; have hcz28_4 : w27.cell? ⟨gb111, 4, none⟩ = some (.slice A0_4 l0_4.length c0_4) := (iE BK111.out 4).trans rfl; have hcz28_5 : w27.cell? ⟨gb111, 5, none⟩ = some (.int .u32 a0_5) := (iE BK111.out 5).trans rfl; have hcz28_6 : w27.cell? ⟨gb111, 6, none⟩ = some (.slice A0_6 l0_6.length c0_6) := (iE BK111.out 6).trans rfl; have hcz28_7 : w27.cell? ⟨gb111, 7, none⟩ = some (.int .i64 a0_7) := (iE BK111.out 7).trans rfl; have hcz28_8 : w27.cell? ⟨gb111, 8, none⟩ = some (.int .i64 a0_8) := (iE BK111.out 8).trans rfl; have hcz28_9 : w27.cell? ⟨gb111, 9, none⟩ = some (.slice A0_9 l0_9.length c0_9) := (iE BK111.out 9).trans rfl; have hfz28_0 := iD BK111.out 0; have hfz28_1 := iD BK111.out 1; have hfz28_2 := iD BK111.out 2; have hfz28_3 := iD BK111.out 3; have hfz28_4 := iD BK111.out 4; have hfz28_5 := iD BK111.out 5; have hfz28_6 := iD BK111.out 6; have hfz28_7 := iD BK111.out 7; have hfz28_8 := iD BK111.out 8; have hfz28_9 := iD BK111.out 9))
      go_ret
      exact ⟨by first | rfl | (simp [iV, iU] <;> rfl) | (simp [*, iV, iU] <;> rfl), by repeat (first | (with_reducible first | exact HB.out | apply iG | apply iF | apply iJ | refine iH ?_ GE111.out) | exact HB.out)⟩
  · rw [if_neg c2] at H
    have c2b0 : (a0_0 == 0) = false := beq_eq_false_iff_ne.mpr c2
    have c2b1 : (a0_0 != 0) = true := bne_iff_ne.mpr c2
    obtain rfl := Option.some.inj H
    go_enter Tryd.func67, Tryd.ntmps67
    go_wp2_with (first | ((with_reducible refine jV (N := 1) rfl ?_); (try (refine kH (by rfl) ?_; dsimp only)); refine jQ ?hg (N := 1) ?hd (cs := #[.int .u8 a0_0, .int .u32 a0_1, .int .u32 a0_2, .slice A0_3 l0_3.length c0_3, .slice A0_4 l0_4.length c0_4, .int .u32 a0_5, .slice A0_6 l0_6.length c0_6, .int .i64 a0_7, .int .i64 a0_8, .slice A0_9 l0_9.length c0_9]) (t := 30) ?hr ?_; (case hd => rfl); (case hg => rfl); (case hr => first | (go_simp; done) | (go_simp; rfl)); intro gb111 hg w29 hbox hb; have n0_ := iC.mk (iK hb_ hb); have n1_ := iC.mk (hbox); have n2_ := iC.mk ((by rw [hg]; exact (iP hb_) : w.heap.size ≤ gb111)); have n3_ := iC.mk ((by rw [hg]; exact (iP hb_) : w.heap.size ≤ gb111)); clear HB; have HB := n0_; have BK111 := n1_; have GW111 := n2_; have GE111 := n3_; clear n0_ n1_ n2_ n3_; clear hb hbox hg; have hcz30_0 : w29.cell? ⟨gb111, 0, none⟩ = some (.int .u8 a0_0) := (iE BK111.out 0).trans rfl; have hcz30_1 : w29.cell? ⟨gb111, 1, none⟩ = some (.int .u32 a0_1) := (iE BK111.out 1).trans rfl; have hcz30_2 : w29.cell? ⟨gb111, 2, none⟩ = some (.int .u32 a0_2) := (iE BK111.out 2).trans rfl; have hcz30_3 : w29.cell? ⟨gb111, 3, none⟩ = some (.slice A0_3 l0_3.length c0_3) := (iE BK111.out 3).trans rfl; have hcz30_4 : w29.cell? ⟨gb111, 4, none⟩ = some (.slice A0_4 l0_4.length c0_4) := (iE BK111.out 4).trans rfl; have hcz30_5 : w29.cell? ⟨gb111, 5, none⟩ = some (.int .u32 a0_5) := (iE BK111.out 5).trans rfl; have hcz30_6 : w29.cell? ⟨gb111, 6, none⟩ = some (.slice A0_6 l0_6.length c0_6) := (iE BK111.out 6).trans rfl; have hcz30_7 : w29.cell? ⟨gb111, 7, none⟩ = some (.int .i64 a0_7) := (iE BK111.out 7).trans rfl; have hcz30_8 : w29.cell? ⟨gb111, 8, none⟩ = some (.int .i64 a0_8) := (iE BK111.out 8).trans rfl; have hcz30_9 : w29.cell? ⟨gb111, 9, none⟩ = some (.slice A0_9 l0_9.length c0_9) := (iE BK111.out 9).trans rfl; have hfz30_0 := iD BK111.out 0; have hfz30_1 := iD BK111.out 1; have hfz30_2 := iD BK111.out 2; have hfz30_3 := iD BK111.out 3; have hfz30_4 := iD BK111.out 4; have hfz30_5 := iD BK111.out 5; have hfz30_6 := iD BK111.out 6; have hfz30_7 := iD BK111.out 7; have hfz30_8 := iD BK111.out 8; have hfz30_9 := iD BK111.out 9))
    go_ret
    exact ⟨by first | rfl | (simp [iV, iU] <;> rfl) | (simp [*, iV, iU] <;> rfl), by repeat (first | (with_reducible first | exact HB.out | apply iG | apply iF | apply iJ | refine iH ?_ GE111.out) | exact HB.out)⟩
end Go.Proofs.YtgfkgppomaapiaaDoor.K
end

section
namespace Go.Proofs.YtgfkgppomaapiaaDoor.K
open RowKit YtgfkgppomaapiaaDoorW.PrintWords YtgfkgppomaapiaaDoorW.PrintLast YtgfkgppomaapiaaDoorW.PrintMore My
theorem MJ {w w' : World} (h : kD w w') : Below w.heap.size w w' := by
  obtain ⟨n, rfl⟩ := h
  exact iF (Below.refl _ _) n
theorem qH {i : Int} {n : Nat} (h0 : 0 ≤ i) (h : i < (n : Int)) (hn : n ≤ 9223372036854775807) : wrap64 (i + 1) = i + 1 := by unfold wrap64; omega
theorem VW (l : List Int) (hn : l.length ≤ 9223372036854775807) (d : Nat) : ∀ (k : Nat) (last i : Int), 0 ≤ i → i ≤ l.length → (l.length : Int) - i = d → d < k → code_rises.l0 k last l (l.length : Int) i = some (lJ last (l.drop i.toNat)) := by
  induction d with
  | zero =>
    intro k last i h0 h1 hd hk
    obtain ⟨k, rfl⟩ : ∃ m, k = m + 1 := ⟨k - 1, by omega⟩
    simp only [code_rises.l0]
    rw [if_neg (by omega), List.drop_of_length_le (by omega)]
    rfl
  | succ d ih =>
    intro k last i h0 h1 hd hk
    obtain ⟨k, rfl⟩ : ∃ m, k = m + 1 := ⟨k - 1, by omega⟩
    have hlt : i < (l.length : Int) := by omega
    have hnat : i.toNat < l.length := by omega
    have hdrop : l.drop i.toNat = rd l i :: l.drop (i + 1).toNat := by
      rw [List.drop_eq_getElem_cons hnat, show (i + 1).toNat = i.toNat + 1 by omega]
      congr 1
      unfold rd
      rw [List.getD_eq_getElem?_getD, List.getElem?_eq_getElem hnat]
      rfl
    simp only [code_rises.l0]
    rw [if_pos hlt, if_pos h0, if_pos hlt, hdrop, lJ]
    by_cases c1 : rd l i ≤ last
    · rw [if_pos c1, decide_eq_false (by omega : ¬ last < rd l i)]
      rfl
    · rw [if_neg c1, decide_eq_true (by omega : last < rd l i)]
      by_cases c2 : rd l i ≥ 6
      · rw [if_pos c2, decide_eq_false (by omega : ¬ rd l i < 6)]
        rfl
      · rw [if_neg c2, decide_eq_true (by omega : rd l i < 6), qH h0 hlt hn]
        exact ih k _ (i + 1) (by omega) (by omega) (by omega) (by omega)
theorem qR (A : Option Addr) (c : Nat) (l : List Int) (w : World) (hr : Kd.C (Kd.int .i64) w A l.length l) (hc : l.length ≤ c) :
    Calls Tryd.prog 61 #[.slice A l.length c] w fun e w' => e = .returned (.bool (lJ (-1) l)) ∧ Below w.heap.size w w' :=
  (code_rises.calls (l.length + 1) A c l _ w hr hc (by unfold code_rises.f; rw [VW l (kX hr) l.length (l.length + 1) (-1) 0 (by omega) (by omega) (by omega) (by omega)]; rfl)).mono fun _ _ ⟨he, hd⟩ => ⟨he, MJ hd⟩
def gapB (p : Option Int) (a : Int) : Bool := match p with | none => true | some q => decide (q < a)
theorem uD (p : Option Int) (e : jF) (l : List jF) : oD p (e :: l) = (mJ e.f1 && gapB p e.f0 && oD (some e.f0) l) := by
  cases p <;> rfl
def JC (l : List jF) (i : Int) : Option Int := if 0 < i then some (iT l (i - 1)).f0 else none
theorem Q3 (l : List jF) (hn : l.length ≤ 9223372036854775807) (d : Nat) : ∀ (k : Nat) (i : Int), 0 ≤ i → i ≤ l.length → (l.length : Int) - i = d → d < k →
    code_history.l0 k l l (l.length : Int) i = some (oD (JC l i) (l.drop i.toNat) && decide ((l.length : Int) ≤ 5000)) := by
  induction d with
  | zero =>
    intro k i h0 h1 hd hk
    obtain ⟨k, rfl⟩ : ∃ m, k = m + 1 := ⟨k - 1, by omega⟩
    simp only [code_history.l0]
    rw [if_neg (by omega), List.drop_of_length_le (by omega)]
    rfl
  | succ d ih =>
    intro k i h0 h1 hd hk
    obtain ⟨k, rfl⟩ : ∃ m, k = m + 1 := ⟨k - 1, by omega⟩
    have hlt : i < (l.length : Int) := by omega
    have hnat : i.toNat < l.length := by omega
    have hdrop : l.drop i.toNat = iT l i :: l.drop (i + 1).toNat := by
      rw [List.drop_eq_getElem_cons hnat, show (i + 1).toNat = i.toNat + 1 by omega]
      congr 1
      unfold iT
      rw [List.getD_eq_getElem?_getD, List.getElem?_eq_getElem hnat]
      rfl
    have hnext : JC l (i + 1) = some (iT l i).f0 := by
      unfold JC
      rw [if_pos (by omega), show i + 1 - 1 = i by omega]
    have hih := ih k (i + 1) (by omega) (by omega) (by omega) (by omega)
    rw [hnext] at hih
    simp only [code_history.l0]
    rw [if_pos hlt, if_pos h0, if_pos hlt, hdrop, uD]
    simp only [code_batch.f, Option.bind_some]
    rw [qH h0 hlt hn, hih]
    cases mJ (iT l i).f1 with
    | false => rfl
    | true =>
      rw [if_pos rfl]
      by_cases hi : i > 0
      · have hw : wrap64 (i - 1) = i - 1 := by unfold wrap64; omega
        rw [if_pos hi, hw, if_pos (by omega), if_pos (by omega)]
        unfold JC gapB
        rw [if_pos hi]
        simp only [Bool.true_and]
        by_cases c1 : (iT l i).f0 ≤ (iT l (i - 1)).f0
        · rw [if_pos c1, decide_eq_false (show ¬ (iT l (i - 1)).f0 < (iT l i).f0 by omega)]
          rfl
        · rw [if_neg c1, decide_eq_true (show (iT l (i - 1)).f0 < (iT l i).f0 by omega)]
          rfl
      · rw [if_neg hi]
        unfold JC gapB
        rw [if_neg hi]
        rfl
theorem mZ (A : Option Addr) (c : Nat) (l : List jF) (w : World) (hr : Kd.C k86 w A l.length l) (hc : l.length ≤ c) :
    Calls Tryd.prog 66 #[.slice A l.length c] w fun e w' => e = .returned (.bool (nG l && decide ((l.length : Int) ≤ 5000))) ∧ Below w.heap.size w w' :=
  code_history.calls (l.length + 1) A c l _ w hr hc (by unfold code_history.f; rw [Q3 l (kX hr) l.length (l.length + 1) 0 (by omega) (by omega) (by omega) (by omega)]; rfl)
def lM (a0 a1 a2 : Int) (l3 : List Int) (l4 : List jP) (a5 : Int) (l6 : List kF) (a7 a8 : Int) (l9 : List jF) : Bool :=
  a0 == 0 && a1 == 0 && a2 == 0 && l3.isEmpty && l4.isEmpty && a5 == 0 && l6.isEmpty && a7 == 0 && a8 == 0 && l9.isEmpty
theorem P5 {α : Type} (l : List α) : ((l.length : Int) = 0) = (l.isEmpty = true) := by
  cases l with
  | nil => simp
  | cons x l => simp; omega
theorem WS (a0 a1 a2 : Int) (l3 : List Int) (l4 : List jP) (a5 : Int) (l6 : List kF) (a7 a8 : Int) (l9 : List jF) : code_plain.f a0 a1 a2 l3 l4 a5 l6 a7 a8 l9 = some (lM a0 a1 a2 l3 l4 a5 l6 a7 a8 l9) := by
  unfold code_plain.f lM
  have e9 : ((l9.length : Int) == 0) = l9.isEmpty := by
    rw [Bool.eq_iff_iff, beq_iff_eq, P5]
  rw [e9]
  simp only [P5]
  by_cases h0 : a0 = 0
  · by_cases h1 : a1 = 0
    · by_cases h2 : a2 = 0
      · cases h3 : l3.isEmpty
        · simp [h0, h1, h2]
        · cases h4 : l4.isEmpty
          · simp [h0, h1, h2]
          · by_cases h5 : a5 = 0
            · cases h6 : l6.isEmpty
              · simp [h0, h1, h2, h5]
              · by_cases h7 : a7 = 0
                · by_cases h8 : a8 = 0
                  · simp [h0, h1, h2, h5, h7, h8]
                  · simp [h0, h1, h2, h5, h7, h8]
                · simp [h0, h1, h2, h5, h7]
            · simp [h0, h1, h2, h5]
      · simp [h0, h1, h2]
    · simp [h0, h1]
  · simp [h0]
theorem X9 (s : kF) : nU s = (decide (0 ≤ s.f0) && decide (s.f0 ≤ 9999) && decide (0 ≤ s.f1) && decide (s.f1 < 6)) := rfl
set_option maxHeartbeats 1000000 in
theorem XI (s : kF) (w : World) :
    Calls Tryd.prog 65 #[.agg #[.int .i64 s.f0, .int .i64 s.f1]] w fun e w' => e = .returned (.bool (nU s)) ∧ Below w.heap.size w w' := by
  rw [X9]
  by_cases h0 : 0 ≤ s.f0
  · by_cases h1 : s.f0 ≤ 9999
    · by_cases h2 : 0 ≤ s.f1
      · by_cases h3 : s.f1 < 6
        · rw [decide_eq_true h0, decide_eq_true h1, decide_eq_true h2, decide_eq_true h3]
          go_enter Tryd.func65, Tryd.ntmps65
          go_wp2
          go_ret
          exact ⟨rfl, iG (Below.refl _ _) _⟩
        · rw [decide_eq_true h0, decide_eq_true h1, decide_eq_true h2, decide_eq_false h3]
          go_enter Tryd.func65, Tryd.ntmps65
          go_wp2
          go_ret
          exact ⟨rfl, iG (Below.refl _ _) _⟩
      · rw [decide_eq_true h0, decide_eq_true h1, decide_eq_false h2, Bool.and_false, Bool.false_and]
        go_enter Tryd.func65, Tryd.ntmps65
        go_wp2
        go_ret
        exact ⟨rfl, iG (Below.refl _ _) _⟩
    · rw [decide_eq_true h0, decide_eq_false h1, Bool.and_false, Bool.false_and, Bool.false_and]
      go_enter Tryd.func65, Tryd.ntmps65
      go_wp2
      go_ret
      exact ⟨rfl, iG (Below.refl _ _) _⟩
  · rw [decide_eq_false h0, Bool.false_and, Bool.false_and, Bool.false_and]
    go_enter Tryd.func65, Tryd.ntmps65
    go_wp2
    go_ret
    exact ⟨rfl, iG (Below.refl _ _) _⟩
set_option maxHeartbeats 400000 in
theorem NU (s : kF) (w : World) :
    Calls Tryd.prog 64 #[.agg #[.int .i64 s.f0, .int .i64 s.f1]] w fun e w' => e = .returned (.bool (!nU s)) ∧ Below w.heap.size w w' := by
  have hcall := XI s (w.alloc (.cells #[.int .i64 s.f0, .int .i64 s.f1] 98))
  generalize nU s = b at hcall
  go_enter Tryd.func64, Tryd.ntmps64
  go_wp2_with (go_at_call 65; refine hcall.mono ?_; rintro e w' ⟨rfl, hb⟩)
  go_ret
  exact ⟨rfl, iK (iG (Below.refl _ _) _) hb⟩
def yJ : kF := z98
set_option maxHeartbeats 1000000 in
theorem NE (A : Option Addr) (c : Nat) (l : List kF) (w : World) (hr : Kd.C k98 w A l.length l) :
    Calls Tryd.prog 95 #[.slice A l.length c, .func (.func 64) #[] #[]] w (ND (l.any fun f => !nU f) w) := by
  have hm := kX hr
  have HR := iC.mk hr
  clear hr
  go_enter Tryd.func95, Tryd.ntmps95
  go_wp2
  go_loopg [5, 8] l.length (fun gg _ s8 wr => ∃ k : Nat, k ≤ l.length ∧ l.length - k ≤ gg ∧ s8 = .int .i64 k ∧ iC (Below w.heap.size w wr) ∧ iC ((l.take k).any (fun f => !nU f) = false))
  case atStart => exact ⟨0, Nat.zero_le _, by omega, rfl, ⟨Below.refl _ _⟩, ⟨rfl⟩⟩
  case round =>
    obtain ⟨k, hk, hg, rfl, HW, HA⟩ := hrel
    by_cases hlt : k < l.length
    · obtain ⟨ad, rfl, hx0, hx1⟩ := xQ (Kd.C_below HR.out HW.out) (k : Int) (by omega) (by omega)
      have hsn := any_take_succ (fun f => !nU f) yJ l k hlt
      have hgd : kU l (k : Int) = l.getD k yJ := by unfold kU yJ; rw [Int.toNat_natCast]
      rw [hgd] at hx0 hx1
      rw [Int.toNat_natCast] at hx0 hx1
      clear hgd
      obtain ⟨f, hf⟩ : ∃ v, v = l.getD k yJ := ⟨_, rfl⟩
      rw [← hf] at hx0 hx1 hsn
      have hcall := NU f wr
      cases hq : (!nU f) with
      | true =>
        have HH := iC.mk (MI (fun f => !nU f) yJ l k hlt (by rw [← hf]; exact hq))
        rw [hq] at hcall
        clear hf hsn hq
        go_wp2_with (go_at_call 64; refine hcall.mono ?_; rintro e w' ⟨rfl, hb⟩)
        go_ret
        exact ⟨k, rfl, by rw [HH.out]; simp, iK HW.out hb⟩
      | false =>
        have HN := iC.mk (show (l.take (k + 1)).any (fun f => !nU f) = false by rw [hsn, HA.out, hq]; rfl)
        rw [hq] at hcall
        clear hf hsn hq
        go_wp2_with (go_at_call 64; refine hcall.mono ?_; rintro e w' ⟨rfl, hb⟩)
        go_roundg (l.length - (k + 1))
        case measure => omega
        case rel => exact ⟨k + 1, by omega, by omega, by go_num, ⟨iK HW.out hb⟩, HN⟩
    · have : k = l.length := by omega
      subst this
      go_wp2
      go_ret
      exact ⟨-1, rfl, by rw [IV _ _ HA.out]; rfl, HW.out⟩
set_option maxHeartbeats 400000 in
theorem xY (A : Option Addr) (c : Nat) (l : List kF) (w : World) (hr : Kd.C k98 w A l.length l) :
    Calls Tryd.prog 63 #[.slice A l.length c, .func (.func 64) #[] #[]] w fun e w' => e = .returned (.bool (l.any fun f => !nU f)) ∧ Below w.heap.size w w' := by
  have hcall := NE A c l w hr
  clear hr
  generalize (l.any fun f => !nU f) = b at hcall
  go_enter Tryd.func63, Tryd.ntmps63
  go_wp2_with (go_at_call 95; refine hcall.mono ?_; rintro e w' ⟨r, rfl, hr, hb⟩; have HR := iC.mk hr; clear hr)
  go_ret
  exact ⟨by rw [← HR.out]; rfl, hb⟩
end Go.Proofs.YtgfkgppomaapiaaDoor.K
end

section
namespace Go.Proofs.YtgfkgppomaapiaaDoor.K
open RowKit YtgfkgppomaapiaaDoorW.PrintWords YtgfkgppomaapiaaDoorW.PrintLast YtgfkgppomaapiaaDoorW.PrintMore My
theorem ten {w : World} {b t : Nat} {v0 v1 v2 v3 v4 v5 v6 v7 v8 v9 : Value} (h : w.heap[b]? = some (.cells #[v0, v1, v2, v3, v4, v5, v6, v7, v8, v9] t (0, 0))) :
    w.cell? ⟨b, 0, none⟩ = some v0 ∧ w.cell? ⟨b, 1, none⟩ = some v1 ∧ w.cell? ⟨b, 2, none⟩ = some v2 ∧ w.cell? ⟨b, 3, none⟩ = some v3 ∧ w.cell? ⟨b, 4, none⟩ = some v4 ∧ w.cell? ⟨b, 5, none⟩ = some v5 ∧ w.cell? ⟨b, 6, none⟩ = some v6 ∧ w.cell? ⟨b, 7, none⟩ = some v7 ∧ w.cell? ⟨b, 8, none⟩ = some v8 ∧ w.cell? ⟨b, 9, none⟩ = some v9 ∧
    w.frozen? ⟨b, 0, none⟩ = false ∧ w.frozen? ⟨b, 1, none⟩ = false ∧ w.frozen? ⟨b, 2, none⟩ = false ∧ w.frozen? ⟨b, 3, none⟩ = false ∧ w.frozen? ⟨b, 4, none⟩ = false ∧ w.frozen? ⟨b, 5, none⟩ = false ∧ w.frozen? ⟨b, 6, none⟩ = false ∧ w.frozen? ⟨b, 7, none⟩ = false ∧ w.frozen? ⟨b, 8, none⟩ = false ∧ w.frozen? ⟨b, 9, none⟩ = false :=
  ⟨(iE h 0).trans rfl, (iE h 1).trans rfl, (iE h 2).trans rfl, (iE h 3).trans rfl, (iE h 4).trans rfl, (iE h 5).trans rfl, (iE h 6).trans rfl, (iE h 7).trans rfl, (iE h 8).trans rfl, (iE h 9).trans rfl,
   iD h 0, iD h 1, iD h 2, iD h 3, iD h 4, iD h 5, iD h 6, iD h 7, iD h 8, iD h 9⟩
theorem nJ (a0 a1 a2 : Int) (A3 : Option Addr) (c3 : Nat) (l3 : List Int) (A4 : Option Addr) (c4 : Nat) (l4 : List jP) (a5 : Int) (A6 : Option Addr) (c6 : Nat) (l6 : List kF) (a7 a8 : Int) (A9 : Option Addr) (c9 : Nat) (l9 : List jF) (w : World)
    (h3 : Kd.C (Kd.int .i64) w A3 l3.length l3) (d3 : l3.length ≤ c3) (h4 : Kd.C k139 w A4 l4.length l4) (d4 : l4.length ≤ c4) (h6 : Kd.C k98 w A6 l6.length l6) (d6 : l6.length ≤ c6) (h9 : Kd.C k86 w A9 l9.length l9) (d9 : l9.length ≤ c9) :
    Calls Tryd.prog 67 #[.agg #[.int .u8 a0, .int .u32 a1, .int .u32 a2, .slice A3 l3.length c3, .slice A4 l4.length c4, .int .u32 a5, .slice A6 l6.length c6, .int .i64 a7, .int .i64 a8, .slice A9 l9.length c9]] w fun e w' => e = .returned (.bool (lM a0 a1 a2 l3 l4 a5 l6 a7 a8 l9)) ∧ Below w.heap.size w w' :=
  code_plain.calls a0 a1 a2 A3 c3 l3 A4 c4 l4 a5 A6 c6 l6 a7 a8 A9 c9 l9 _ w h3 d3 h4 d4 h6 d6 h9 d9 (WS _ _ _ _ _ _ _ _ _ _)
def code_Sound.f (a0_0 : Int) (a0_1 : Int) (a0_2 : Int) (l0_3 : List Int) (l0_4 : List jP) (a0_5 : Int) (l0_6 : List kF) (a0_7 : Int) (a0_8 : Int) (l0_9 : List jF) : Option Bool :=
  some (jZ ⟨a0_0, a0_1, a0_2, l0_3, l0_4, ⟨a0_5, l0_6⟩, a0_7, a0_8, l0_9⟩)
theorem Y2 (a1 a2 : Int) (l3 : List Int) (l4 : List jP) (a5 : Int) (l6 : List kF) (a7 a8 : Int) (l9 : List jF) : jZ ⟨1, a1, a2, l3, l4, ⟨a5, l6⟩, a7, a8, l9⟩ = (lJ (-1) l3 && mJ l4 && lM 0 0 a2 [] [] a5 l6 a7 a8 l9) := by
  simp [jZ, lM, Bool.and_assoc]
theorem Y1 (a1 a2 : Int) (l3 : List Int) (l4 : List jP) (a5 : Int) (l6 : List kF) (a7 a8 : Int) (l9 : List jF) : jZ ⟨2, a1, a2, l3, l4, ⟨a5, l6⟩, a7, a8, l9⟩ = (lJ (-1) l3 && lM 0 0 0 [] l4 a5 l6 a7 a8 l9) := by
  simp [jZ, lM, Bool.and_assoc]
theorem IP (a0 a1 a2 : Int) (l3 : List Int) (l4 : List jP) (a5 : Int) (l6 : List kF) (a7 a8 : Int) (l9 : List jF) (h : a0 = 3 ∨ a0 = 4 ∨ a0 = 5) : jZ ⟨a0, a1, a2, l3, l4, ⟨a5, l6⟩, a7, a8, l9⟩ = lM 0 0 a2 l3 l4 a5 l6 a7 a8 l9 := by
  rcases h with rfl | rfl | rfl <;> simp [jZ, lM, Bool.and_assoc]
theorem Y4 (a1 a2 : Int) (l3 : List Int) (l4 : List jP) (a5 : Int) (l6 : List kF) (a7 a8 : Int) (l9 : List jF) : jZ ⟨6, a1, a2, l3, l4, ⟨a5, l6⟩, a7, a8, l9⟩ = (decide (a1 = 0) && decide ((l6.length : Int) ≤ 40) && !(l6.any fun s => !nU s) && lM 0 0 a2 l3 l4 0 [] a7 a8 l9) := by
  have e1 : l6.all nU = !(l6.any fun s => !nU s) := by rw [List.any_eq_not_all_not, Bool.not_not]; congr 1; funext v; simp
  have e2 : decide (l6.length ≤ 40) = decide ((l6.length : Int) ≤ 40) := by rw [decide_eq_decide]; omega
  have e3 : (a1 == 0) = decide (a1 = 0) := by rw [Bool.eq_iff_iff]; simp
  rw [← e1, ← e2, ← e3]
  simp [jZ, lM, Bool.and_assoc]
theorem Y5 (a1 a2 : Int) (l3 : List Int) (l4 : List jP) (a5 : Int) (l6 : List kF) (a7 a8 : Int) (l9 : List jF) : jZ ⟨7, a1, a2, l3, l4, ⟨a5, l6⟩, a7, a8, l9⟩ = ((nG l9 && decide ((l9.length : Int) ≤ 5000)) && decide (0 ≤ a7) && decide (a7 ≤ 10000) && decide (0 ≤ a8) && decide (a8 ≤ 10000) && lM 0 0 a2 l3 l4 a5 l6 0 0 []) := by
  have e2 : decide (l9.length ≤ 5000) = decide ((l9.length : Int) ≤ 5000) := by rw [decide_eq_decide]; omega
  rw [← e2]
  simp [jZ, lM, Bool.and_assoc]
theorem YH (a0 a1 a2 : Int) (l3 : List Int) (l4 : List jP) (a5 : Int) (l6 : List kF) (a7 a8 : Int) (l9 : List jF) (h : a0 < 1 ∨ 7 < a0) : jZ ⟨a0, a1, a2, l3, l4, ⟨a5, l6⟩, a7, a8, l9⟩ = false := by
  unfold jZ
  simp only
  rw [if_neg (by omega), if_neg (by omega), if_neg (by simp; omega), if_neg (by omega), if_neg (by omega)]
section
variable (a0 a1 a2 : Int) (A3 : Option Addr) (c3 : Nat) (l3 : List Int) (A4 : Option Addr) (c4 : Nat) (l4 : List jP) (a5 : Int) (A6 : Option Addr) (c6 : Nat) (l6 : List kF) (a7 a8 : Int) (A9 : Option Addr) (c9 : Nat) (l9 : List jF) (w : World)
  (h3 : Kd.C (Kd.int .i64) w A3 l3.length l3) (d3 : l3.length ≤ c3) (h4 : Kd.C k139 w A4 l4.length l4) (d4 : l4.length ≤ c4) (h6 : Kd.C k98 w A6 l6.length l6) (d6 : l6.length ≤ c6) (h9 : Kd.C k86 w A9 l9.length l9) (d9 : l9.length ≤ c9)
include h3 d3 h4 d4 h6 d6 h9 d9
set_option maxHeartbeats 4000000 in
set_option maxRecDepth 20000 in
theorem Q5 : Calls Tryd.prog 19 #[.agg #[.int .u8 1, .int .u32 a1, .int .u32 a2, .slice A3 l3.length c3, .slice A4 l4.length c4, .int .u32 a5, .slice A6 l6.length c6, .int .i64 a7, .int .i64 a8, .slice A9 l9.length c9]] w fun e w' => e = .returned (.bool (jZ ⟨1, a1, a2, l3, l4, ⟨a5, l6⟩, a7, a8, l9⟩)) ∧ Below w.heap.size w w' := by
  have H3 := iC.mk h3; have H4 := iC.mk h4; have H6 := iC.mk h6; have H9 := iC.mk h9
  clear h3 h4 h6 h9
  rw [Y2]
  cases hr : lJ (-1) l3 with
  | false =>
    have HQ := iC.mk hr
    clear hr
    rw [Bool.false_and, Bool.false_and]
    go_enter Tryd.func19, Tryd.ntmps19
    go_wp2_with (go_at_call 61; refine (qR _ _ l3 _ (Kd.C_below H3.out bel_) d3).mono ?_; rintro e w1 ⟨rfl, hb1⟩; rw [HQ.out]; have hbk := ten (iO hb1 (iZ rfl)); obtain ⟨z0, z1, z2, z3, z4, z5, z6, z7, z8, z9, y0, y1, y2, y3, y4, y5, y6, y7, y8, y9⟩ := hbk)
    go_ret
    exact ⟨rfl, bel_⟩
  | true =>
    have HQ := iC.mk hr
    clear hr
    rw [Bool.true_and]
    cases hb : mJ l4 with
    | false =>
      have HQ2 := iC.mk hb
      clear hb
      rw [Bool.false_and]
      go_enter Tryd.func19, Tryd.ntmps19
      go_wp2_with (first | (go_at_call 61; refine (qR _ _ l3 _ (Kd.C_below H3.out bel_) d3).mono ?_; rintro e w1 ⟨rfl, hb1⟩; rw [HQ.out]; have hbk := ten (iO hb1 (iZ rfl)); obtain ⟨z0, z1, z2, z3, z4, z5, z6, z7, z8, z9, y0, y1, y2, y3, y4, y5, y6, y7, y8, y9⟩ := hbk) | (go_at_call 62; refine (code_batch.calls _ _ l4 _ _ (Kd.C_below H4.out bel_) d4 rfl).mono ?_; rintro e w2 ⟨rfl, hb2⟩; rw [HQ2.out]; have hbk1 := iO hb2 (iO hb1 (iZ rfl)); clear z0 z1 z2 z3 z4 z5 z6 z7 z8 z9 y0 y1 y2 y3 y4 y5 y6 y7 y8 y9; obtain ⟨z0, z1, z2, z3, z4, z5, z6, z7, z8, z9, y0, y1, y2, y3, y4, y5, y6, y7, y8, y9⟩ := ten hbk1; clear hbk1))
      go_ret
      exact ⟨rfl, bel_⟩
    | true =>
      have HQ2 := iC.mk hb
      clear hb
      rw [Bool.true_and]
      generalize hp : lM 0 0 a2 [] [] a5 l6 a7 a8 l9 = P
      have HP := iC.mk hp
      clear hp
      go_enter Tryd.func19, Tryd.ntmps19
      go_wp2_with (first | (go_at_call 61; refine (qR _ _ l3 _ (Kd.C_below H3.out bel_) d3).mono ?_; rintro e w1 ⟨rfl, hb1⟩; rw [HQ.out]; have hbk := ten (iO hb1 (iZ rfl)); obtain ⟨z0, z1, z2, z3, z4, z5, z6, z7, z8, z9, y0, y1, y2, y3, y4, y5, y6, y7, y8, y9⟩ := hbk) | (go_at_call 62; refine (code_batch.calls _ _ l4 _ _ (Kd.C_below H4.out bel_) d4 rfl).mono ?_; rintro e w2 ⟨rfl, hb2⟩; rw [HQ2.out]; have hbk1 := iO hb2 (iO hb1 (iZ rfl)); clear z0 z1 z2 z3 z4 z5 z6 z7 z8 z9 y0 y1 y2 y3 y4 y5 y6 y7 y8 y9; obtain ⟨z0, z1, z2, z3, z4, z5, z6, z7, z8, z9, y0, y1, y2, y3, y4, y5, y6, y7, y8, y9⟩ := ten hbk1; clear hbk1) | (go_at_call 67; refine (nJ 0 0 a2 none 0 ([] : List Int) none 0 ([] : List jP) a5 A6 c6 l6 a7 a8 A9 c9 l9 _ (Kd.C_nil _ _) (Nat.le_refl _) (Kd.C_nil _ _) (Nat.le_refl _) (Kd.C_below H6.out bel_) d6 (Kd.C_below H9.out bel_) d9).mono ?_; rintro e w9 ⟨rfl, hb9⟩))
      go_ret
      exact ⟨by rw [← HP.out]; rfl, bel_⟩
set_option maxHeartbeats 4000000 in
set_option maxRecDepth 20000 in
theorem QE : Calls Tryd.prog 19 #[.agg #[.int .u8 2, .int .u32 a1, .int .u32 a2, .slice A3 l3.length c3, .slice A4 l4.length c4, .int .u32 a5, .slice A6 l6.length c6, .int .i64 a7, .int .i64 a8, .slice A9 l9.length c9]] w fun e w' => e = .returned (.bool (jZ ⟨2, a1, a2, l3, l4, ⟨a5, l6⟩, a7, a8, l9⟩)) ∧ Below w.heap.size w w' := by
  have H3 := iC.mk h3; have H4 := iC.mk h4; have H6 := iC.mk h6; have H9 := iC.mk h9
  clear h3 h4 h6 h9
  rw [Y1]
  cases hr : lJ (-1) l3 with
  | false =>
    have HQ := iC.mk hr
    clear hr
    rw [Bool.false_and]
    go_enter Tryd.func19, Tryd.ntmps19
    go_wp2_with (go_at_call 61; refine (qR _ _ l3 _ (Kd.C_below H3.out bel_) d3).mono ?_; rintro e w1 ⟨rfl, hb1⟩; rw [HQ.out]; have hbk := ten (iO hb1 (iZ rfl)); obtain ⟨z0, z1, z2, z3, z4, z5, z6, z7, z8, z9, y0, y1, y2, y3, y4, y5, y6, y7, y8, y9⟩ := hbk)
    go_ret
    exact ⟨rfl, bel_⟩
  | true =>
    have HQ := iC.mk hr
    clear hr
    rw [Bool.true_and]
    generalize hp : lM 0 0 0 [] l4 a5 l6 a7 a8 l9 = P
    have HP := iC.mk hp
    clear hp
    go_enter Tryd.func19, Tryd.ntmps19
    go_wp2_with (first | (go_at_call 61; refine (qR _ _ l3 _ (Kd.C_below H3.out bel_) d3).mono ?_; rintro e w1 ⟨rfl, hb1⟩; rw [HQ.out]; have hbk := ten (iO hb1 (iZ rfl)); obtain ⟨z0, z1, z2, z3, z4, z5, z6, z7, z8, z9, y0, y1, y2, y3, y4, y5, y6, y7, y8, y9⟩ := hbk) | (go_at_call 67; refine (nJ 0 0 0 none 0 ([] : List Int) A4 c4 l4 a5 A6 c6 l6 a7 a8 A9 c9 l9 _ (Kd.C_nil _ _) (Nat.le_refl _) (Kd.C_below H4.out bel_) d4 (Kd.C_below H6.out bel_) d6 (Kd.C_below H9.out bel_) d9).mono ?_; rintro e w9 ⟨rfl, hb9⟩))
    go_ret
    exact ⟨by rw [← HP.out]; rfl, bel_⟩
set_option maxHeartbeats 4000000 in
set_option maxRecDepth 20000 in
theorem JK (ha : a0 = 3 ∨ a0 = 4 ∨ a0 = 5) : Calls Tryd.prog 19 #[.agg #[.int .u8 a0, .int .u32 a1, .int .u32 a2, .slice A3 l3.length c3, .slice A4 l4.length c4, .int .u32 a5, .slice A6 l6.length c6, .int .i64 a7, .int .i64 a8, .slice A9 l9.length c9]] w fun e w' => e = .returned (.bool (jZ ⟨a0, a1, a2, l3, l4, ⟨a5, l6⟩, a7, a8, l9⟩)) ∧ Below w.heap.size w w' := by
  have H3 := iC.mk h3; have H4 := iC.mk h4; have H6 := iC.mk h6; have H9 := iC.mk h9
  clear h3 h4 h6 h9
  rcases ha with rfl | rfl | rfl
  ·
    rw [IP _ _ _ _ _ _ _ _ _ _ (by omega)]
    generalize hp : lM 0 0 a2 l3 l4 a5 l6 a7 a8 l9 = P
    have HP := iC.mk hp
    clear hp
    go_enter Tryd.func19, Tryd.ntmps19
    go_wp2_with (go_at_call 67; refine (nJ 0 0 a2 A3 c3 l3 A4 c4 l4 a5 A6 c6 l6 a7 a8 A9 c9 l9 _ (Kd.C_below H3.out bel_) d3 (Kd.C_below H4.out bel_) d4 (Kd.C_below H6.out bel_) d6 (Kd.C_below H9.out bel_) d9).mono ?_; rintro e w9 ⟨rfl, hb9⟩)
    go_ret
    exact ⟨by rw [← HP.out]; rfl, bel_⟩
  ·
    rw [IP _ _ _ _ _ _ _ _ _ _ (by omega)]
    generalize hp : lM 0 0 a2 l3 l4 a5 l6 a7 a8 l9 = P
    have HP := iC.mk hp
    clear hp
    go_enter Tryd.func19, Tryd.ntmps19
    go_wp2_with (go_at_call 67; refine (nJ 0 0 a2 A3 c3 l3 A4 c4 l4 a5 A6 c6 l6 a7 a8 A9 c9 l9 _ (Kd.C_below H3.out bel_) d3 (Kd.C_below H4.out bel_) d4 (Kd.C_below H6.out bel_) d6 (Kd.C_below H9.out bel_) d9).mono ?_; rintro e w9 ⟨rfl, hb9⟩)
    go_ret
    exact ⟨by rw [← HP.out]; rfl, bel_⟩
  ·
    rw [IP _ _ _ _ _ _ _ _ _ _ (by omega)]
    generalize hp : lM 0 0 a2 l3 l4 a5 l6 a7 a8 l9 = P
    have HP := iC.mk hp
    clear hp
    go_enter Tryd.func19, Tryd.ntmps19
    go_wp2_with (go_at_call 67; refine (nJ 0 0 a2 A3 c3 l3 A4 c4 l4 a5 A6 c6 l6 a7 a8 A9 c9 l9 _ (Kd.C_below H3.out bel_) d3 (Kd.C_below H4.out bel_) d4 (Kd.C_below H6.out bel_) d6 (Kd.C_below H9.out bel_) d9).mono ?_; rintro e w9 ⟨rfl, hb9⟩)
    go_ret
    exact ⟨by rw [← HP.out]; rfl, bel_⟩
set_option maxHeartbeats 4000000 in
set_option maxRecDepth 20000 in
theorem QW : Calls Tryd.prog 19 #[.agg #[.int .u8 6, .int .u32 a1, .int .u32 a2, .slice A3 l3.length c3, .slice A4 l4.length c4, .int .u32 a5, .slice A6 l6.length c6, .int .i64 a7, .int .i64 a8, .slice A9 l9.length c9]] w fun e w' => e = .returned (.bool (jZ ⟨6, a1, a2, l3, l4, ⟨a5, l6⟩, a7, a8, l9⟩)) ∧ Below w.heap.size w w' := by
  have _ := d6
  have H3 := iC.mk h3; have H4 := iC.mk h4; have H6 := iC.mk h6; have H9 := iC.mk h9
  clear h3 h4 h6 h9
  rw [Y4]
  by_cases q1 : a1 = 0
  · subst q1
    by_cases q2 : (l6.length : Int) ≤ 40
    · rw [decide_eq_true (rfl : (0 : Int) = 0), decide_eq_true q2]
      cases hr : (l6.any fun s => !nU s) with
      | true =>
        have HQ := iC.mk hr
        clear hr
        go_enter Tryd.func19, Tryd.ntmps19
        go_wp2_with (first | (go_at_call 63; refine (xY _ _ l6 _ (Kd.C_below H6.out bel_)).mono ?_; rintro e w1 ⟨rfl, hb1⟩; rw [HQ.out]; have hbk := ten (iO hb1 (iZ rfl)); obtain ⟨z0, z1, z2, z3, z4, z5, z6, z7, z8, z9, y0, y1, y2, y3, y4, y5, y6, y7, y8, y9⟩ := hbk) | (go_at_call 67; refine (nJ 0 0 a2 A3 c3 l3 A4 c4 l4 0 none 0 ([] : List kF) a7 a8 A9 c9 l9 _ (Kd.C_below H3.out bel_) d3 (Kd.C_below H4.out bel_) d4 (Kd.C_nil _ _) (Nat.le_refl _) (Kd.C_below H9.out bel_) d9).mono ?_; rintro e w9 ⟨rfl, hb9⟩))
        go_ret
        exact ⟨rfl, bel_⟩
      | false =>
        have HQ := iC.mk hr
        clear hr
        rw [show (true && true && !false && lM 0 0 a2 l3 l4 0 [] a7 a8 l9) = lM 0 0 a2 l3 l4 0 [] a7 a8 l9 by simp]
        generalize hp : lM 0 0 a2 l3 l4 0 [] a7 a8 l9 = P
        have HP := iC.mk hp
        clear hp
        go_enter Tryd.func19, Tryd.ntmps19
        go_wp2_with (first | (go_at_call 63; refine (xY _ _ l6 _ (Kd.C_below H6.out bel_)).mono ?_; rintro e w1 ⟨rfl, hb1⟩; rw [HQ.out]; have hbk := ten (iO hb1 (iZ rfl)); obtain ⟨z0, z1, z2, z3, z4, z5, z6, z7, z8, z9, y0, y1, y2, y3, y4, y5, y6, y7, y8, y9⟩ := hbk) | (go_at_call 67; refine (nJ 0 0 a2 A3 c3 l3 A4 c4 l4 0 none 0 ([] : List kF) a7 a8 A9 c9 l9 _ (Kd.C_below H3.out bel_) d3 (Kd.C_below H4.out bel_) d4 (Kd.C_nil _ _) (Nat.le_refl _) (Kd.C_below H9.out bel_) d9).mono ?_; rintro e w9 ⟨rfl, hb9⟩))
        go_ret
        exact ⟨by rw [← HP.out]; rfl, bel_⟩
    · rw [decide_eq_true (rfl : (0 : Int) = 0), decide_eq_false q2]
      go_enter Tryd.func19, Tryd.ntmps19
      go_wp2_with fail
      go_ret
      exact ⟨rfl, bel_⟩
  · rw [decide_eq_false q1, Bool.false_and, Bool.false_and, Bool.false_and]
    have q1' : (a1 == 0) = false := beq_eq_false_iff_ne.mpr q1
    go_enter Tryd.func19, Tryd.ntmps19
    go_wp2_with fail
    go_ret
    exact ⟨rfl, bel_⟩
set_option maxHeartbeats 4000000 in
set_option maxRecDepth 20000 in
theorem PH : Calls Tryd.prog 19 #[.agg #[.int .u8 7, .int .u32 a1, .int .u32 a2, .slice A3 l3.length c3, .slice A4 l4.length c4, .int .u32 a5, .slice A6 l6.length c6, .int .i64 a7, .int .i64 a8, .slice A9 l9.length c9]] w fun e w' => e = .returned (.bool (jZ ⟨7, a1, a2, l3, l4, ⟨a5, l6⟩, a7, a8, l9⟩)) ∧ Below w.heap.size w w' := by
  have H3 := iC.mk h3; have H4 := iC.mk h4; have H6 := iC.mk h6; have H9 := iC.mk h9
  clear h3 h4 h6 h9
  rw [Y5]
  cases hr : (nG l9 && decide ((l9.length : Int) ≤ 5000)) with
  | false =>
    have HQ := iC.mk hr
    clear hr
    rw [Bool.false_and, Bool.false_and, Bool.false_and, Bool.false_and, Bool.false_and]
    go_enter Tryd.func19, Tryd.ntmps19
    go_wp2_with (go_at_call 66; refine (mZ _ _ l9 _ (Kd.C_below H9.out bel_) d9).mono ?_; rintro e w1 ⟨rfl, hb1⟩; rw [HQ.out]; have hbk := ten (iO hb1 (iZ rfl)); obtain ⟨z0, z1, z2, z3, z4, z5, z6, z7, z8, z9, y0, y1, y2, y3, y4, y5, y6, y7, y8, y9⟩ := hbk)
    go_ret
    exact ⟨rfl, bel_⟩
  | true =>
    have HQ := iC.mk hr
    clear hr
    by_cases q1 : 0 ≤ a7
    · by_cases q2 : a7 ≤ 10000
      · by_cases q3 : 0 ≤ a8
        · by_cases q4 : a8 ≤ 10000
          · rw [decide_eq_true q1, decide_eq_true q2, decide_eq_true q3, decide_eq_true q4]
            rw [show (true && true && true && true && true && lM 0 0 a2 l3 l4 a5 l6 0 0 []) = lM 0 0 a2 l3 l4 a5 l6 0 0 [] by simp]
            generalize hp : lM 0 0 a2 l3 l4 a5 l6 0 0 [] = P
            have HP := iC.mk hp
            clear hp
            go_enter Tryd.func19, Tryd.ntmps19
            go_wp2_with (first | (go_at_call 66; refine (mZ _ _ l9 _ (Kd.C_below H9.out bel_) d9).mono ?_; rintro e w1 ⟨rfl, hb1⟩; rw [HQ.out]; have hbk := ten (iO hb1 (iZ rfl)); obtain ⟨z0, z1, z2, z3, z4, z5, z6, z7, z8, z9, y0, y1, y2, y3, y4, y5, y6, y7, y8, y9⟩ := hbk) | (go_at_call 67; refine (nJ 0 0 a2 A3 c3 l3 A4 c4 l4 a5 A6 c6 l6 0 0 none 0 ([] : List jF) _ (Kd.C_below H3.out bel_) d3 (Kd.C_below H4.out bel_) d4 (Kd.C_below H6.out bel_) d6 (Kd.C_nil _ _) (Nat.le_refl _)).mono ?_; rintro e w9 ⟨rfl, hb9⟩))
            go_ret
            exact ⟨by rw [← HP.out]; rfl, bel_⟩
          · rw [decide_eq_false q4, Bool.and_false, Bool.false_and]
            go_enter Tryd.func19, Tryd.ntmps19
            go_wp2_with (go_at_call 66; refine (mZ _ _ l9 _ (Kd.C_below H9.out bel_) d9).mono ?_; rintro e w1 ⟨rfl, hb1⟩; rw [HQ.out]; have hbk := ten (iO hb1 (iZ rfl)); obtain ⟨z0, z1, z2, z3, z4, z5, z6, z7, z8, z9, y0, y1, y2, y3, y4, y5, y6, y7, y8, y9⟩ := hbk)
            go_ret
            exact ⟨rfl, bel_⟩
        · rw [decide_eq_false q3, Bool.and_false, Bool.false_and, Bool.false_and]
          go_enter Tryd.func19, Tryd.ntmps19
          go_wp2_with (go_at_call 66; refine (mZ _ _ l9 _ (Kd.C_below H9.out bel_) d9).mono ?_; rintro e w1 ⟨rfl, hb1⟩; rw [HQ.out]; have hbk := ten (iO hb1 (iZ rfl)); obtain ⟨z0, z1, z2, z3, z4, z5, z6, z7, z8, z9, y0, y1, y2, y3, y4, y5, y6, y7, y8, y9⟩ := hbk)
          go_ret
          exact ⟨rfl, bel_⟩
      · rw [decide_eq_false q2, Bool.and_false, Bool.false_and, Bool.false_and, Bool.false_and]
        go_enter Tryd.func19, Tryd.ntmps19
        go_wp2_with (go_at_call 66; refine (mZ _ _ l9 _ (Kd.C_below H9.out bel_) d9).mono ?_; rintro e w1 ⟨rfl, hb1⟩; rw [HQ.out]; have hbk := ten (iO hb1 (iZ rfl)); obtain ⟨z0, z1, z2, z3, z4, z5, z6, z7, z8, z9, y0, y1, y2, y3, y4, y5, y6, y7, y8, y9⟩ := hbk)
        go_ret
        exact ⟨rfl, bel_⟩
    · rw [decide_eq_false q1, Bool.and_false, Bool.false_and, Bool.false_and, Bool.false_and, Bool.false_and]
      go_enter Tryd.func19, Tryd.ntmps19
      go_wp2_with (go_at_call 66; refine (mZ _ _ l9 _ (Kd.C_below H9.out bel_) d9).mono ?_; rintro e w1 ⟨rfl, hb1⟩; rw [HQ.out]; have hbk := ten (iO hb1 (iZ rfl)); obtain ⟨z0, z1, z2, z3, z4, z5, z6, z7, z8, z9, y0, y1, y2, y3, y4, y5, y6, y7, y8, y9⟩ := hbk)
      go_ret
      exact ⟨rfl, bel_⟩
set_option maxHeartbeats 4000000 in
set_option maxRecDepth 20000 in
theorem QQ (ha : a0 < 1 ∨ 7 < a0) : Calls Tryd.prog 19 #[.agg #[.int .u8 a0, .int .u32 a1, .int .u32 a2, .slice A3 l3.length c3, .slice A4 l4.length c4, .int .u32 a5, .slice A6 l6.length c6, .int .i64 a7, .int .i64 a8, .slice A9 l9.length c9]] w fun e w' => e = .returned (.bool (jZ ⟨a0, a1, a2, l3, l4, ⟨a5, l6⟩, a7, a8, l9⟩)) ∧ Below w.heap.size w w' := by
  have _ := d3; have _ := d4; have _ := d6; have _ := d9
  have H3 := iC.mk h3; have H4 := iC.mk h4; have H6 := iC.mk h6; have H9 := iC.mk h9
  clear h3 h4 h6 h9
  rw [YH _ _ _ _ _ _ _ _ _ _ ha]
  have q1 : (a0 == 1) = false := beq_eq_false_iff_ne.mpr (by omega)
  have q2 : (a0 == 2) = false := beq_eq_false_iff_ne.mpr (by omega)
  have q3 : (a0 == 3) = false := beq_eq_false_iff_ne.mpr (by omega)
  have q4 : (a0 == 4) = false := beq_eq_false_iff_ne.mpr (by omega)
  have q5 : (a0 == 5) = false := beq_eq_false_iff_ne.mpr (by omega)
  have q6 : (a0 == 6) = false := beq_eq_false_iff_ne.mpr (by omega)
  have q7 : (a0 == 7) = false := beq_eq_false_iff_ne.mpr (by omega)
  clear ha
  go_enter Tryd.func19, Tryd.ntmps19
  go_wp2
  go_ret
  exact ⟨rfl, bel_⟩
end
theorem code_Sound.calls (a0_0 : Int) (a0_1 : Int) (a0_2 : Int) (A0_3 : Option Addr) (c0_3 : Nat) (l0_3 : List Int) (A0_4 : Option Addr) (c0_4 : Nat) (l0_4 : List jP) (a0_5 : Int) (A0_6 : Option Addr) (c0_6 : Nat) (l0_6 : List kF) (a0_7 : Int) (a0_8 : Int) (A0_9 : Option Addr) (c0_9 : Nat) (l0_9 : List jF) (r : Bool) (w : World) (hr0_3 : Kd.C (Kd.int .i64) w A0_3 l0_3.length l0_3) (hc0_3 : l0_3.length ≤ c0_3) (hr0_4 : Kd.C k139 w A0_4 l0_4.length l0_4) (hc0_4 : l0_4.length ≤ c0_4) (hr0_6 : Kd.C k98 w A0_6 l0_6.length l0_6) (hc0_6 : l0_6.length ≤ c0_6) (hr0_9 : Kd.C k86 w A0_9 l0_9.length l0_9) (hc0_9 : l0_9.length ≤ c0_9) (h : code_Sound.f a0_0 a0_1 a0_2 l0_3 l0_4 a0_5 l0_6 a0_7 a0_8 l0_9 = some r) :
    Calls Tryd.prog 19 #[.agg #[.int .u8 a0_0, .int .u32 a0_1, .int .u32 a0_2, .slice A0_3 l0_3.length c0_3, .slice A0_4 l0_4.length c0_4, .int .u32 a0_5, .slice A0_6 l0_6.length c0_6, .int .i64 a0_7, .int .i64 a0_8, .slice A0_9 l0_9.length c0_9]] w fun e w' => e = .returned (.bool r) ∧ Below w.heap.size w w' := by
  obtain rfl := Option.some.inj h
  clear h
  by_cases h0 : a0_0 < 1 ∨ 7 < a0_0
  · exact QQ a0_0 a0_1 a0_2 A0_3 c0_3 l0_3 A0_4 c0_4 l0_4 a0_5 A0_6 c0_6 l0_6 a0_7 a0_8 A0_9 c0_9 l0_9 w hr0_3 hc0_3 hr0_4 hc0_4 hr0_6 hc0_6 hr0_9 hc0_9 h0
  have h7 : a0_0 = 1 ∨ a0_0 = 2 ∨ (a0_0 = 3 ∨ a0_0 = 4 ∨ a0_0 = 5) ∨ a0_0 = 6 ∨ a0_0 = 7 := by omega
  rcases h7 with rfl | rfl | h3 | rfl | rfl
  · exact Q5 a0_1 a0_2 A0_3 c0_3 l0_3 A0_4 c0_4 l0_4 a0_5 A0_6 c0_6 l0_6 a0_7 a0_8 A0_9 c0_9 l0_9 w hr0_3 hc0_3 hr0_4 hc0_4 hr0_6 hc0_6 hr0_9 hc0_9
  · exact QE a0_1 a0_2 A0_3 c0_3 l0_3 A0_4 c0_4 l0_4 a0_5 A0_6 c0_6 l0_6 a0_7 a0_8 A0_9 c0_9 l0_9 w hr0_3 hc0_3 hr0_4 hc0_4 hr0_6 hc0_6 hr0_9 hc0_9
  · exact JK a0_0 a0_1 a0_2 A0_3 c0_3 l0_3 A0_4 c0_4 l0_4 a0_5 A0_6 c0_6 l0_6 a0_7 a0_8 A0_9 c0_9 l0_9 w hr0_3 hc0_3 hr0_4 hc0_4 hr0_6 hc0_6 hr0_9 hc0_9 h3
  · exact QW a0_1 a0_2 A0_3 c0_3 l0_3 A0_4 c0_4 l0_4 a0_5 A0_6 c0_6 l0_6 a0_7 a0_8 A0_9 c0_9 l0_9 w hr0_3 hc0_3 hr0_4 hc0_4 hr0_6 hc0_6 hr0_9 hc0_9
  · exact PH a0_1 a0_2 A0_3 c0_3 l0_3 A0_4 c0_4 l0_4 a0_5 A0_6 c0_6 l0_6 a0_7 a0_8 A0_9 c0_9 l0_9 w hr0_3 hc0_3 hr0_4 hc0_4 hr0_6 hc0_6 hr0_9 hc0_9
end Go.Proofs.YtgfkgppomaapiaaDoor.K
end

section
namespace Go.Proofs.YtgfkgppomaapiaaDoor.K
open RowKit YtgfkgppomaapiaaDoorW.PrintWords YtgfkgppomaapiaaDoorW.PrintLast YtgfkgppomaapiaaDoorW.PrintMore My
def flag (b : Bool) (c : Nat) (s : List UInt8) : Bool := b || s.any fun x => x.toNat == c
def jc5 (a1 a2 : Int) (l3 : List Int) (l4 : List jP) (a5 : Int) (l6 : List kF) (a7 a8 : Int) (l9 : List jF) (s : List UInt8) : Bool :=
  flag (a1 == 0) 73 s && flag (a2 == 0) 65 s && flag ((l3.length : Int) == 0) 78 s && flag ((l4.length : Int) == 0) 70 s && flag ((a5 == 0) && ((l6.length : Int) == 0)) 77 s && flag ((a7 == 0) && (a8 == 0) && ((l9.length : Int) == 0)) 82 s
def stratumref07_bare.f (a0_0 : Int) (a0_1 : Int) (a0_2 : Int) (l0_3 : List Int) (l0_4 : List jP) (a0_5 : Int) (l0_6 : List kF) (a0_7 : Int) (a0_8 : Int) (l0_9 : List jF) (a1 : ByteArray) : Option Bool :=
  if (a1.size : Int) ≤ 9223372036854775807 then some (jc5 a0_1 a0_2 l0_3 l0_4 a0_5 l0_6 a0_7 a0_8 l0_9 a1.data.toList) else none
end Go.Proofs.YtgfkgppomaapiaaDoor.K
end

section
namespace Go.Proofs.YtgfkgppomaapiaaDoor.K
open Go.RowKit Go.Proofs.YtgfkgppomaapiaaDoorW.PrintWords Go.Proofs.YtgfkgppomaapiaaDoorW.PrintLast Go.Proofs.YtgfkgppomaapiaaDoorW.PrintMore
attribute [local go_sem] kE kC kN kL
def stratumref07_Sound.j0 : Nat → Int → Bool → Int → Int → Int → List Int → List (S139) → Int → List (S98) → Int → Int → List (S86) → Option (Bool)
  | 0, _, _, _, _, _, _, _, _, _, _, _, _ => none
  | k + 1, x4, x28, x136000, x136001, x136002, x136003, x136004, x136005, x136006, x136007, x136008, x136009 => if x28 = true then ((stratumref07_bare.f x136000 x136001 x136002 x136003 x136004 x136005 x136006 x136007 x136008 x136009 (⟨#[73]⟩ : ByteArray)).bind fun t141 => (some t141)) else (if x4 = 6 then ((stratumref07_bare.f x136000 x136001 x136002 x136003 x136004 x136005 x136006 x136007 x136008 x136009 (⟨#[77]⟩ : ByteArray)).bind fun t142 => (if t142 = true then ((stratumref07_spans.f k x136006).bind fun t143 => (some t143)) else (some false))) else (if x4 = 7 then ((stratumref07_bare.f x136000 x136001 x136002 x136003 x136004 x136005 x136006 x136007 x136008 x136009 (⟨#[73, 82]⟩ : ByteArray)).bind fun t144 => (if t144 = true then ((stratumref07_SoundEntries.f k x136009).bind fun t145 => (if t145 = true then (if x136007 ≥ 0 then (if x136007 ≤ 10000 then (if x136008 ≥ 0 then (some (decide (x136008 ≤ 10000))) else (some false)) else (some false)) else (some false)) else (some false))) else (some false))) else (some false)))
def stratumref07_Sound.f (k : Nat) (a0_0 : Int) (a0_1 : Int) (a0_2 : Int) (l0_3 : List Int) (l0_4 : List (S139)) (a0_5 : Int) (l0_6 : List (S98)) (a0_7 : Int) (a0_8 : Int) (l0_9 : List (S86)) : Option (Bool) := if a0_0 = 1 then ((stratumref07_bare.f a0_0 a0_1 a0_2 l0_3 l0_4 a0_5 l0_6 a0_7 a0_8 l0_9 (⟨#[73, 78, 70]⟩ : ByteArray)).bind fun t136 => (if t136 = true then ((stratumref07_SoundNodes.f k l0_3).bind fun t137 => (if t137 = true then ((stratumref07_SoundFacts.f k l0_4).bind fun t138 => (some t138)) else (some false))) else (some false))) else (if a0_0 = 2 then ((stratumref07_bare.f a0_0 a0_1 a0_2 l0_3 l0_4 a0_5 l0_6 a0_7 a0_8 l0_9 (⟨#[73, 65, 78]⟩ : ByteArray)).bind fun t139 => (if t139 = true then ((stratumref07_SoundNodes.f k l0_3).bind fun t140 => (some t140)) else (some false))) else (if a0_0 = 3 then (stratumref07_Sound.j0 k a0_0 (a0_0 == 3) a0_0 a0_1 a0_2 l0_3 l0_4 a0_5 l0_6 a0_7 a0_8 l0_9) else (if a0_0 = 4 then (stratumref07_Sound.j0 k a0_0 (a0_0 == 4) a0_0 a0_1 a0_2 l0_3 l0_4 a0_5 l0_6 a0_7 a0_8 l0_9) else (stratumref07_Sound.j0 k a0_0 (a0_0 == 5) a0_0 a0_1 a0_2 l0_3 l0_4 a0_5 l0_6 a0_7 a0_8 l0_9))))
end Go.Proofs.YtgfkgppomaapiaaDoor.K
end

section
namespace Go.Proofs.YtgfkgppomaapiaaDoor.K
open RowKit YtgfkgppomaapiaaDoorW.PrintWords YtgfkgppomaapiaaDoorW.PrintLast YtgfkgppomaapiaaDoorW.PrintMore My
theorem U3 {α : Type} (d : α) (l : List α) (i : Int) (h : i.toNat < l.length) (h0 : 0 ≤ i) : l.drop i.toNat = l.getD i.toNat d :: l.drop (i + 1).toNat := by
  rw [List.drop_eq_getElem_cons h, show (i + 1).toNat = i.toNat + 1 by omega]
  congr 1
  rw [List.getD_eq_getElem?_getD, List.getElem?_eq_getElem h]
  rfl
theorem drop_end {α : Type} (l : List α) (i : Int) (h : ¬ i < (l.length : Int)) : l.drop i.toNat = [] := List.drop_of_length_le (by omega)
structure YQ (l3 : List Int) (l4 : List jP) (l6 : List kF) (l9 : List jF) : Prop where
  n3 : l3.length ≤ 9223372036854775807
  n4 : l4.length ≤ 9223372036854775807
  f4 : ∀ f ∈ l4, f.f0.length ≤ 9223372036854775807
  n6 : l6.length ≤ 9223372036854775807
  n9 : l9.length ≤ 9223372036854775807
  f9 : ∀ e ∈ l9, e.f1.length ≤ 9223372036854775807 ∧ ∀ f ∈ e.f1, f.f0.length ≤ 9223372036854775807
theorem U8 {g : Nat → Option Bool} {b : Bool} (B : Bool) (h : Ev g b) : Ev (fun k => if B = true then g k else some false) (B && b) := by
  cases B with
  | false => exact Ev.now _
  | true => exact h
end Go.Proofs.YtgfkgppomaapiaaDoor.K
end

section
namespace Go.Proofs
open Go.Shelf
def Tryd.laysM181_ren : Go.Shelf.Ren := ⟨fun | 181 => 55 | n => n, fun | 130 => 87 | 3 => 3 | 0 => 0 | 93 => 91 | 37 => 33 | 91 => 89 | 5 => 5 | n => n, fun | n => n⟩
theorem Tryd.laysM181 : Go.Proofs.LaysM.n181 Tryd.prog Tryd.laysM181_ren := {
  mixed := by kernel_rfl
  f181 := Tryd.func55.trans (congrArg some (by kernel_rfl))
  t0 := Tryd.underlying0
  a0 := Tryd.isAgg0
  z0 := Tryd.sizeOf0
  v0 := Tryd.zeroValue0
  t3 := Tryd.underlying3
  a3 := Tryd.isAgg3
  z3 := Tryd.sizeOf3
  v3 := Tryd.zeroValue3
  t37 := Tryd.underlying33
  a37 := Tryd.isAgg33
  z37 := Tryd.sizeOf33
  v37 := Tryd.zeroValue33
  t93 := Tryd.underlying91
  a93 := Tryd.isAgg91
  z93 := Tryd.sizeOf91
  v93 := Tryd.zeroValue91
  t130 := Tryd.underlying87
  a130 := Tryd.isAgg87
  z130 := Tryd.sizeOf87
  v130 := Tryd.zeroValue87
  t5 := Tryd.underlying5
  a5 := Tryd.isAgg5
  z5 := Tryd.sizeOf5
  v5 := Tryd.zeroValue5
  t91 := Tryd.underlying89
  a91 := Tryd.isAgg89
  z91 := Tryd.sizeOf89
  v91 := Tryd.zeroValue89
  i0 := by kernel_rfl
  i3 := by kernel_rfl
  i5 := by kernel_rfl
  i37 := by kernel_rfl
  i91 := by kernel_rfl
  i93 := by kernel_rfl
  i130 := by kernel_rfl }
open Go.RowKit in
theorem Tryd.Buffer_Len (B b : Nat) (bs : List Value) (w : World) (h : Lib.IsBuffer 91 5 B b bs w) :
    Calls Tryd.prog 55 #[.pointer (some ⟨b, 0, none⟩)] w fun e w' => e = .returned (.int .i64 bs.length) ∧ ∃ n, w' = w.drewN n := Any.Buffer_Len Tryd.laysM181 B b bs w h
def Tryd.laysM183_ren : Go.Shelf.Ren := ⟨fun | 183 => 56 | n => n, fun | 130 => 87 | 37 => 33 | 0 => 0 | 93 => 91 | 3 => 3 | 5 => 5 | 91 => 89 | n => n, fun | n => n⟩
theorem Tryd.laysM183 : Go.Proofs.LaysM.n183 Tryd.prog Tryd.laysM183_ren := {
  mixed := by kernel_rfl
  f183 := Tryd.func56.trans (congrArg some (by kernel_rfl))
  t0 := Tryd.underlying0
  a0 := Tryd.isAgg0
  z0 := Tryd.sizeOf0
  v0 := Tryd.zeroValue0
  t3 := Tryd.underlying3
  a3 := Tryd.isAgg3
  z3 := Tryd.sizeOf3
  v3 := Tryd.zeroValue3
  t37 := Tryd.underlying33
  a37 := Tryd.isAgg33
  z37 := Tryd.sizeOf33
  v37 := Tryd.zeroValue33
  t93 := Tryd.underlying91
  a93 := Tryd.isAgg91
  z93 := Tryd.sizeOf91
  v93 := Tryd.zeroValue91
  t130 := Tryd.underlying87
  a130 := Tryd.isAgg87
  z130 := Tryd.sizeOf87
  v130 := Tryd.zeroValue87
  t5 := Tryd.underlying5
  a5 := Tryd.isAgg5
  z5 := Tryd.sizeOf5
  v5 := Tryd.zeroValue5
  t91 := Tryd.underlying89
  a91 := Tryd.isAgg89
  z91 := Tryd.sizeOf89
  v91 := Tryd.zeroValue89
  i0 := by kernel_rfl
  i3 := by kernel_rfl
  i5 := by kernel_rfl
  i37 := by kernel_rfl
  i91 := by kernel_rfl
  i93 := by kernel_rfl
  i130 := by kernel_rfl }
open Go.RowKit in
theorem Tryd.Buffer_Bytes (B b : Nat) (bs : List Value) (w : World) (h : Lib.IsBuffer 91 5 B b bs w) :
    Calls Tryd.prog 56 #[.pointer (some ⟨b, 0, none⟩)] w fun e w' => ∃ v, e = .returned v ∧ w'.ownsRow B 5 1 v bs.length bs ∧ ∃ n, w' = w.drewN n := Any.Buffer_Bytes Tryd.laysM183 B b bs w h
def Tryd.laysM179_ren : Go.Shelf.Ren := ⟨fun | 179 => 90 | 251 => 114 | 252 => 115 | 181 => 55 | 184 => 125 | 290 => 128 | 324 => 132 | n => n, fun | 130 => 87 | 5 => 5 | 75 => 141 | 0 => 0 | 93 => 91 | 91 => 89 | 3 => 3 | 131 => 167 | 4 => 4 | 37 => 33 | 20 => 20 | 80 => 185 | 9 => 9 | n => n, fun | 14 => 0 | n => n⟩
theorem Tryd.laysM179 : Go.Proofs.LaysM.n179 Tryd.prog Tryd.laysM179_ren := {
  mixed := by kernel_rfl
  f179 := Tryd.func90.trans (congrArg some (by kernel_rfl))
  f181 := Tryd.func55.trans (congrArg some (by kernel_rfl))
  f184 := Tryd.func125.trans (congrArg some (by kernel_rfl))
  f251 := Tryd.func114.trans (congrArg some (by kernel_rfl))
  f252 := Tryd.func115.trans (congrArg some (by kernel_rfl))
  f290 := Tryd.func128.trans (congrArg some (by kernel_rfl))
  f324 := Tryd.func132.trans (congrArg some (by kernel_rfl))
  t0 := Tryd.underlying0
  a0 := Tryd.isAgg0
  z0 := Tryd.sizeOf0
  v0 := Tryd.zeroValue0
  t3 := Tryd.underlying3
  a3 := Tryd.isAgg3
  z3 := Tryd.sizeOf3
  v3 := Tryd.zeroValue3
  t4 := Tryd.underlying4
  a4 := Tryd.isAgg4
  z4 := Tryd.sizeOf4
  v4 := Tryd.zeroValue4
  t5 := Tryd.underlying5
  a5 := Tryd.isAgg5
  z5 := Tryd.sizeOf5
  v5 := Tryd.zeroValue5
  t20 := Tryd.underlying20
  a20 := Tryd.isAgg20
  z20 := Tryd.sizeOf20
  v20 := Tryd.zeroValue20
  t37 := Tryd.underlying33
  a37 := Tryd.isAgg33
  z37 := Tryd.sizeOf33
  v37 := Tryd.zeroValue33
  t75 := Tryd.underlying141
  a75 := Tryd.isAgg141
  z75 := Tryd.sizeOf141
  v75 := Tryd.zeroValue141
  t91 := Tryd.underlying89
  a91 := Tryd.isAgg89
  z91 := Tryd.sizeOf89
  v91 := Tryd.zeroValue89
  t93 := Tryd.underlying91
  a93 := Tryd.isAgg91
  z93 := Tryd.sizeOf91
  v93 := Tryd.zeroValue91
  t130 := Tryd.underlying87
  a130 := Tryd.isAgg87
  z130 := Tryd.sizeOf87
  v130 := Tryd.zeroValue87
  t131 := Tryd.underlying167
  a131 := Tryd.isAgg167
  z131 := Tryd.sizeOf167
  v131 := Tryd.zeroValue167
  g14 := by kernel_rfl
  t9 := Tryd.underlying9
  a9 := Tryd.isAgg9
  z9 := Tryd.sizeOf9
  v9 := Tryd.zeroValue9
  t80 := Tryd.underlying185
  a80 := Tryd.isAgg185
  z80 := Tryd.sizeOf185
  v80 := Tryd.zeroValue185
  i0 := by kernel_rfl
  i3 := by kernel_rfl
  i4 := by kernel_rfl
  i5 := by kernel_rfl
  i9 := by kernel_rfl
  i20 := by kernel_rfl
  i37 := by kernel_rfl
  i75 := by kernel_rfl
  i80 := by kernel_rfl
  i91 := by kernel_rfl
  i93 := by kernel_rfl
  i130 := by kernel_rfl
  i131 := by kernel_rfl
  m14 := by kernel_rfl }
open Go.RowKit in
theorem Tryd.Buffer_WriteByte_kept (B b : Nat) (bs : List Value) (c : Int) (w : World) (h : Lib.IsBuffer 91 5 B b bs w) (hBw : B ≤ w.heap.size) (h1 : ∀ v ∈ bs, v.oneCell' = true) (hlim : bs.length + 1 ≤ 140737488355328) :
    Calls Tryd.prog 90 #[.pointer (some ⟨b, 0, none⟩), .int .u8 c] w fun e w' => e = .returned .nilIface ∧ Lib.IsBuffer 91 5 B b (bs ++ [.int .u8 c]) w' ∧ Below B w w' ∧ Lib.OthersKept 5 (some b) w w' := Any.Buffer_WriteByte_kept Tryd.laysM179 B b bs c w h hBw h1 hlim
end Go.Proofs
end

section
namespace Go.Proofs.YtgfkgppomaapiaaDoor.K
open RowKit YtgfkgppomaapiaaDoorW.PrintWords YtgfkgppomaapiaaDoorW.PrintLast YtgfkgppomaapiaaDoorW.PrintMore My
def Bf (B b : Nat) (l : List UInt8) (w : World) : Prop := Lib.IsBuffer 91 5 B b (Lib.byteCells l) w
def Kp (B b : Nat) (w w' : World) : Prop := Below B w w' ∧ Lib.OthersKept 5 (some b) w w'
theorem Kp.refl (B b : Nat) (w : World) : Kp B b w w := ⟨Below.refl _ _, Lib.OthersKept.refl _ _ _⟩
theorem Kp.trans {B b : Nat} {w w1 w2 : World} (h : Kp B b w w1) (k : Kp B b w1 w2) : Kp B b w w2 := ⟨h.1.trans k.1, h.2.trans k.2⟩
theorem Kp.alloc {B b : Nat} {w w1 : World} (h : Kp B b w w1) (hB : B ≤ w1.heap.size) (o : Obj) : Kp B b w (w1.alloc o) := ⟨h.1.alloc hB o, h.2.alloc o⟩
theorem Kp.size {B b : Nat} {w w1 : World} (h : Kp B b w w1) : w.heap.size ≤ w1.heap.size := h.1.size
theorem Kp.block {B b : Nat} {w w1 : World} (h : Kp B b w w1) {k : Nat} {cs : Array Value} {t : TypeId} {fz : Nat × Nat} (hk : w.heap[k]? = some (.cells cs t fz)) (hne : k ≠ b) (ht : t ≠ 5) : w1.heap[k]? = some (.cells cs t fz) :=
  h.2 k _ hk (fun e => hne (by injection e)) (fun c f e => ht (by injection e))
theorem Bf.lt {B b : Nat} {l : List UInt8} {w : World} (h : Bf B b l w) : b < w.heap.size := Lib.IsBuffer.lt h
theorem Bf.alloc {B b : Nat} {l : List UInt8} {w : World} (h : Bf B b l w) (o : Obj) : Bf B b l (w.alloc o) := Lib.IsBuffer.alloc h o
theorem Bf.fresh (w : World) : Bf w.heap.size w.heap.size [] (w.alloc (.cells #[.slice none 0 0, .int .i64 0, .int .i8 0] 91)) := Lib.fresh_isBuffer _ _ _
theorem QA (l : List UInt8) (c : UInt8) : Lib.byteCells (l ++ [c]) = Lib.byteCells l ++ [.int .u8 (c.toNat : Int)] := by simp [Lib.byteCells]
theorem X0 (x : Int) (s k : Nat) (hk : k < s) : (layB x s).take (k + 1) = (layB x s).take k ++ [UInt8.ofNat ((x / 256 ^ (s - 1 - k)) % 256).toNat] := by
  induction s generalizing k with
  | zero => omega
  | succ s ih =>
    cases k with
    | zero => simp [layB]
    | succ k =>
      have := ih k (by omega)
      simp only [layB, List.take_succ_cons, List.cons_append]
      rw [this, show s + 1 - 1 - (k + 1) = s - 1 - k by omega]
theorem byte_of (v : Int) : ((UInt8.ofNat (v % 256).toNat).toNat : Int) = v % 256 := by
  rw [UInt8.toNat_ofNat']
  omega
theorem Bf.step {B b : Nat} {l : List UInt8} {x V : Int} {s k : Nat} {w : World} (h : Lib.IsBuffer 91 5 B b (Lib.byteCells (l ++ (layB x s).take k) ++ [.int .u8 V]) w) (hk : k < s) (hV : V = x / 256 ^ (s - 1 - k) % 256) : Bf B b (l ++ (layB x s).take (k + 1)) w := by
  unfold Bf
  rw [X0 x s k hk, ← List.append_assoc, QA, byte_of, ← hV]
  exact h
theorem cells_one (l : List UInt8) : ∀ v ∈ Lib.byteCells l, v.oneCell' = true := Lib.byteCells_one l
theorem kK (l : List UInt8) (x : Int) (s k : Nat) (h : l.length + s ≤ 140737488355328) (hk : k < s) : (Lib.byteCells (l ++ (layB x s).take k)).length + 1 ≤ 140737488355328 := by
  rw [Lib.byteCells_length, List.length_append, List.length_take, iQ]
  omega
set_option maxHeartbeats 4000000 in
theorem oG (B b : Nat) (l : List UInt8) (x : Int) (w : World) (h : Bf B b l w) (hB : B ≤ w.heap.size) (hl : l.length + 1 ≤ 140737488355328) :
    Calls Tryd.prog 49 #[.pointer (some ⟨b, 0, none⟩), .int .u8 x, .int .i64 1] w fun e w' => e = .returned (.tuple #[]) ∧ Bf B b (l ++ layB x 1) w' ∧ Kp B b w w' := by
  have H0 := iC.mk h
  clear h
  go_enter Tryd.func49, Tryd.ntmps49
  go_wp2
  go_loopw [8] (fun i wr => ∃ k : Nat, k ≤ 1 ∧ i = .int .i64 k ∧ iC (Bf B b (l ++ (layB x 1).take k) wr) ∧ iC (Kp B b w wr)) (fun i _ => 1 - (intOf i).toNat)
  case atStart => exact ⟨0, Nat.zero_le _, rfl, ⟨by rw [List.take_zero, List.append_nil]; exact H0.out⟩, ⟨Kp.refl _ _ _⟩⟩
  case round =>
    obtain ⟨k, hk, rfl, HI, HK⟩ := hrel
    have h' : k = 0 ∨ k = 1 := by omega
    rcases h' with rfl | rfl
    · have hI := HI.out
      have hK := HK.out
      clear HI HK
      go_wp2_with (go_at_call 90; refine (Tryd.Buffer_WriteByte_kept B b _ _ wr hI (Nat.le_trans hB hK.size) (cells_one _) (kK l x 1 0 hl (by omega))).mono ?_; rintro e w1 ⟨rfl, hI1, hb1, hk1⟩; have HI1 := iC.mk hI1; have HK1 := iC.mk (hK.trans ⟨hb1, hk1⟩); clear hI1 hb1 hk1 hI hK)
      go_roundw
      case rel => exact ⟨1, by omega, by go_num, ⟨Bf.step (k := 0) HI1.out (by omega) (by first | rfl | (show _ = x / 1 % 256; rw [IntKind.wrap_u64]; omega) | (show _ = x / 1 % 256; omega))⟩, HK1⟩
      case measure => simp [intOf]
    · go_wp2
      go_end0
      refine ⟨rfl, ?_, HK.out⟩
      have := HI.out
      rwa [List.take_of_length_le (by rw [iQ]; exact Nat.le_refl _)] at this
set_option maxHeartbeats 4000000 in
theorem lH (B b : Nat) (l : List UInt8) (x : Int) (w : World) (h : Bf B b l w) (hB : B ≤ w.heap.size) (hl : l.length + 4 ≤ 140737488355328) :
    Calls Tryd.prog 50 #[.pointer (some ⟨b, 0, none⟩), .int .u32 x, .int .i64 4] w fun e w' => e = .returned (.tuple #[]) ∧ Bf B b (l ++ layB x 4) w' ∧ Kp B b w w' := by
  have H0 := iC.mk h
  clear h
  go_enter Tryd.func50, Tryd.ntmps50
  go_wp2
  go_loopw [8] (fun i wr => ∃ k : Nat, k ≤ 4 ∧ i = .int .i64 k ∧ iC (Bf B b (l ++ (layB x 4).take k) wr) ∧ iC (Kp B b w wr)) (fun i _ => 4 - (intOf i).toNat)
  case atStart => exact ⟨0, Nat.zero_le _, rfl, ⟨by rw [List.take_zero, List.append_nil]; exact H0.out⟩, ⟨Kp.refl _ _ _⟩⟩
  case round =>
    obtain ⟨k, hk, rfl, HI, HK⟩ := hrel
    have h' : k = 0 ∨ k = 1 ∨ k = 2 ∨ k = 3 ∨ k = 4 := by omega
    rcases h' with rfl | rfl | rfl | rfl | rfl
    · have hI := HI.out
      have hK := HK.out
      clear HI HK
      go_wp2_with (go_at_call 90; refine (Tryd.Buffer_WriteByte_kept B b _ _ wr hI (Nat.le_trans hB hK.size) (cells_one _) (kK l x 4 0 hl (by omega))).mono ?_; rintro e w1 ⟨rfl, hI1, hb1, hk1⟩; have HI1 := iC.mk hI1; have HK1 := iC.mk (hK.trans ⟨hb1, hk1⟩); clear hI1 hb1 hk1 hI hK)
      go_roundw
      case rel => exact ⟨1, by omega, by go_num, ⟨Bf.step (k := 0) HI1.out (by omega) (by first | rfl | (show _ = x / 16777216 % 256; rw [IntKind.wrap_u64]; omega) | (show _ = x / 16777216 % 256; omega))⟩, HK1⟩
      case measure => simp [intOf]
    · have hI := HI.out
      have hK := HK.out
      clear HI HK
      go_wp2_with (go_at_call 90; refine (Tryd.Buffer_WriteByte_kept B b _ _ wr hI (Nat.le_trans hB hK.size) (cells_one _) (kK l x 4 1 hl (by omega))).mono ?_; rintro e w1 ⟨rfl, hI1, hb1, hk1⟩; have HI1 := iC.mk hI1; have HK1 := iC.mk (hK.trans ⟨hb1, hk1⟩); clear hI1 hb1 hk1 hI hK)
      go_roundw
      case rel => exact ⟨2, by omega, by go_num, ⟨Bf.step (k := 1) HI1.out (by omega) (by first | rfl | (show _ = x / 65536 % 256; rw [IntKind.wrap_u64]; omega) | (show _ = x / 65536 % 256; omega))⟩, HK1⟩
      case measure => simp [intOf]
    · have hI := HI.out
      have hK := HK.out
      clear HI HK
      go_wp2_with (go_at_call 90; refine (Tryd.Buffer_WriteByte_kept B b _ _ wr hI (Nat.le_trans hB hK.size) (cells_one _) (kK l x 4 2 hl (by omega))).mono ?_; rintro e w1 ⟨rfl, hI1, hb1, hk1⟩; have HI1 := iC.mk hI1; have HK1 := iC.mk (hK.trans ⟨hb1, hk1⟩); clear hI1 hb1 hk1 hI hK)
      go_roundw
      case rel => exact ⟨3, by omega, by go_num, ⟨Bf.step (k := 2) HI1.out (by omega) (by first | rfl | (show _ = x / 256 % 256; rw [IntKind.wrap_u64]; omega) | (show _ = x / 256 % 256; omega))⟩, HK1⟩
      case measure => simp [intOf]
    · have hI := HI.out
      have hK := HK.out
      clear HI HK
      go_wp2_with (go_at_call 90; refine (Tryd.Buffer_WriteByte_kept B b _ _ wr hI (Nat.le_trans hB hK.size) (cells_one _) (kK l x 4 3 hl (by omega))).mono ?_; rintro e w1 ⟨rfl, hI1, hb1, hk1⟩; have HI1 := iC.mk hI1; have HK1 := iC.mk (hK.trans ⟨hb1, hk1⟩); clear hI1 hb1 hk1 hI hK)
      go_roundw
      case rel => exact ⟨4, by omega, by go_num, ⟨Bf.step (k := 3) HI1.out (by omega) (by first | rfl | (show _ = x / 1 % 256; rw [IntKind.wrap_u64]; omega) | (show _ = x / 1 % 256; omega))⟩, HK1⟩
      case measure => simp [intOf]
    · go_wp2
      go_end0
      refine ⟨rfl, ?_, HK.out⟩
      have := HI.out
      rwa [List.take_of_length_le (by rw [iQ]; exact Nat.le_refl _)] at this
set_option maxHeartbeats 4000000 in
theorem pM (B b : Nat) (l : List UInt8) (x : Int) (w : World) (h : Bf B b l w) (hB : B ≤ w.heap.size) (hl : l.length + 1 ≤ 140737488355328) :
    Calls Tryd.prog 53 #[.pointer (some ⟨b, 0, none⟩), .int .i64 x, .int .i64 1] w fun e w' => e = .returned (.tuple #[]) ∧ Bf B b (l ++ layB x 1) w' ∧ Kp B b w w' := by
  have H0 := iC.mk h
  clear h
  go_enter Tryd.func53, Tryd.ntmps53
  go_wp2
  go_loopw [8] (fun i wr => ∃ k : Nat, k ≤ 1 ∧ i = .int .i64 k ∧ iC (Bf B b (l ++ (layB x 1).take k) wr) ∧ iC (Kp B b w wr)) (fun i _ => 1 - (intOf i).toNat)
  case atStart => exact ⟨0, Nat.zero_le _, rfl, ⟨by rw [List.take_zero, List.append_nil]; exact H0.out⟩, ⟨Kp.refl _ _ _⟩⟩
  case round =>
    obtain ⟨k, hk, rfl, HI, HK⟩ := hrel
    have h' : k = 0 ∨ k = 1 := by omega
    rcases h' with rfl | rfl
    · have hI := HI.out
      have hK := HK.out
      clear HI HK
      go_wp2_with (go_at_call 90; refine (Tryd.Buffer_WriteByte_kept B b _ _ wr hI (Nat.le_trans hB hK.size) (cells_one _) (kK l x 1 0 hl (by omega))).mono ?_; rintro e w1 ⟨rfl, hI1, hb1, hk1⟩; have HI1 := iC.mk hI1; have HK1 := iC.mk (hK.trans ⟨hb1, hk1⟩); clear hI1 hb1 hk1 hI hK)
      go_roundw
      case rel => exact ⟨1, by omega, by go_num, ⟨Bf.step (k := 0) HI1.out (by omega) (by first | rfl | (show _ = x / 1 % 256; rw [IntKind.wrap_u64]; omega) | (show _ = x / 1 % 256; omega))⟩, HK1⟩
      case measure => simp [intOf]
    · go_wp2
      go_end0
      refine ⟨rfl, ?_, HK.out⟩
      have := HI.out
      rwa [List.take_of_length_le (by rw [iQ]; exact Nat.le_refl _)] at this
set_option maxHeartbeats 4000000 in
theorem nN (B b : Nat) (l : List UInt8) (x : Int) (w : World) (h : Bf B b l w) (hB : B ≤ w.heap.size) (hl : l.length + 4 ≤ 140737488355328) :
    Calls Tryd.prog 53 #[.pointer (some ⟨b, 0, none⟩), .int .i64 x, .int .i64 4] w fun e w' => e = .returned (.tuple #[]) ∧ Bf B b (l ++ layB x 4) w' ∧ Kp B b w w' := by
  have H0 := iC.mk h
  clear h
  go_enter Tryd.func53, Tryd.ntmps53
  go_wp2
  go_loopw [8] (fun i wr => ∃ k : Nat, k ≤ 4 ∧ i = .int .i64 k ∧ iC (Bf B b (l ++ (layB x 4).take k) wr) ∧ iC (Kp B b w wr)) (fun i _ => 4 - (intOf i).toNat)
  case atStart => exact ⟨0, Nat.zero_le _, rfl, ⟨by rw [List.take_zero, List.append_nil]; exact H0.out⟩, ⟨Kp.refl _ _ _⟩⟩
  case round =>
    obtain ⟨k, hk, rfl, HI, HK⟩ := hrel
    have h' : k = 0 ∨ k = 1 ∨ k = 2 ∨ k = 3 ∨ k = 4 := by omega
    rcases h' with rfl | rfl | rfl | rfl | rfl
    · have hI := HI.out
      have hK := HK.out
      clear HI HK
      go_wp2_with (go_at_call 90; refine (Tryd.Buffer_WriteByte_kept B b _ _ wr hI (Nat.le_trans hB hK.size) (cells_one _) (kK l x 4 0 hl (by omega))).mono ?_; rintro e w1 ⟨rfl, hI1, hb1, hk1⟩; have HI1 := iC.mk hI1; have HK1 := iC.mk (hK.trans ⟨hb1, hk1⟩); clear hI1 hb1 hk1 hI hK)
      go_roundw
      case rel => exact ⟨1, by omega, by go_num, ⟨Bf.step (k := 0) HI1.out (by omega) (by first | rfl | (show _ = x / 16777216 % 256; rw [IntKind.wrap_u64]; omega) | (show _ = x / 16777216 % 256; omega))⟩, HK1⟩
      case measure => simp [intOf]
    · have hI := HI.out
      have hK := HK.out
      clear HI HK
      go_wp2_with (go_at_call 90; refine (Tryd.Buffer_WriteByte_kept B b _ _ wr hI (Nat.le_trans hB hK.size) (cells_one _) (kK l x 4 1 hl (by omega))).mono ?_; rintro e w1 ⟨rfl, hI1, hb1, hk1⟩; have HI1 := iC.mk hI1; have HK1 := iC.mk (hK.trans ⟨hb1, hk1⟩); clear hI1 hb1 hk1 hI hK)
      go_roundw
      case rel => exact ⟨2, by omega, by go_num, ⟨Bf.step (k := 1) HI1.out (by omega) (by first | rfl | (show _ = x / 65536 % 256; rw [IntKind.wrap_u64]; omega) | (show _ = x / 65536 % 256; omega))⟩, HK1⟩
      case measure => simp [intOf]
    · have hI := HI.out
      have hK := HK.out
      clear HI HK
      go_wp2_with (go_at_call 90; refine (Tryd.Buffer_WriteByte_kept B b _ _ wr hI (Nat.le_trans hB hK.size) (cells_one _) (kK l x 4 2 hl (by omega))).mono ?_; rintro e w1 ⟨rfl, hI1, hb1, hk1⟩; have HI1 := iC.mk hI1; have HK1 := iC.mk (hK.trans ⟨hb1, hk1⟩); clear hI1 hb1 hk1 hI hK)
      go_roundw
      case rel => exact ⟨3, by omega, by go_num, ⟨Bf.step (k := 2) HI1.out (by omega) (by first | rfl | (show _ = x / 256 % 256; rw [IntKind.wrap_u64]; omega) | (show _ = x / 256 % 256; omega))⟩, HK1⟩
      case measure => simp [intOf]
    · have hI := HI.out
      have hK := HK.out
      clear HI HK
      go_wp2_with (go_at_call 90; refine (Tryd.Buffer_WriteByte_kept B b _ _ wr hI (Nat.le_trans hB hK.size) (cells_one _) (kK l x 4 3 hl (by omega))).mono ?_; rintro e w1 ⟨rfl, hI1, hb1, hk1⟩; have HI1 := iC.mk hI1; have HK1 := iC.mk (hK.trans ⟨hb1, hk1⟩); clear hI1 hb1 hk1 hI hK)
      go_roundw
      case rel => exact ⟨4, by omega, by go_num, ⟨Bf.step (k := 3) HI1.out (by omega) (by first | rfl | (show _ = x / 1 % 256; rw [IntKind.wrap_u64]; omega) | (show _ = x / 1 % 256; omega))⟩, HK1⟩
      case measure => simp [intOf]
    · go_wp2
      go_end0
      refine ⟨rfl, ?_, HK.out⟩
      have := HI.out
      rwa [List.take_of_length_le (by rw [iQ]; exact Nat.le_refl _)] at this
set_option maxHeartbeats 4000000 in
theorem YZ (B b : Nat) (l : List UInt8) (x : Int) (w : World) (h : Bf B b l w) (hB : B ≤ w.heap.size) (hl : l.length + 8 ≤ 140737488355328) :
    Calls Tryd.prog 91 #[.pointer (some ⟨b, 0, none⟩), .int .i64 x, .int .i64 8] w fun e w' => e = .returned (.tuple #[]) ∧ Bf B b (l ++ layB x 8) w' ∧ Kp B b w w' := by
  have H0 := iC.mk h
  clear h
  go_enter Tryd.func91, Tryd.ntmps91
  go_wp2
  go_loopw [8] (fun i wr => ∃ k : Nat, k ≤ 8 ∧ i = .int .i64 k ∧ iC (Bf B b (l ++ (layB x 8).take k) wr) ∧ iC (Kp B b w wr)) (fun i _ => 8 - (intOf i).toNat)
  case atStart => exact ⟨0, Nat.zero_le _, rfl, ⟨by rw [List.take_zero, List.append_nil]; exact H0.out⟩, ⟨Kp.refl _ _ _⟩⟩
  case round =>
    obtain ⟨k, hk, rfl, HI, HK⟩ := hrel
    have h' : k = 0 ∨ k = 1 ∨ k = 2 ∨ k = 3 ∨ k = 4 ∨ k = 5 ∨ k = 6 ∨ k = 7 ∨ k = 8 := by omega
    rcases h' with rfl | rfl | rfl | rfl | rfl | rfl | rfl | rfl | rfl
    · have hI := HI.out
      have hK := HK.out
      clear HI HK
      go_wp2_with (go_at_call 90; refine (Tryd.Buffer_WriteByte_kept B b _ _ wr hI (Nat.le_trans hB hK.size) (cells_one _) (kK l x 8 0 hl (by omega))).mono ?_; rintro e w1 ⟨rfl, hI1, hb1, hk1⟩; have HI1 := iC.mk hI1; have HK1 := iC.mk (hK.trans ⟨hb1, hk1⟩); clear hI1 hb1 hk1 hI hK)
      go_roundw
      case rel => exact ⟨1, by omega, by go_num, ⟨Bf.step (k := 0) HI1.out (by omega) (by first | rfl | (show _ = x / 72057594037927936 % 256; rw [IntKind.wrap_u64]; omega) | (show _ = x / 72057594037927936 % 256; omega))⟩, HK1⟩
      case measure => simp [intOf]
    · have hI := HI.out
      have hK := HK.out
      clear HI HK
      go_wp2_with (go_at_call 90; refine (Tryd.Buffer_WriteByte_kept B b _ _ wr hI (Nat.le_trans hB hK.size) (cells_one _) (kK l x 8 1 hl (by omega))).mono ?_; rintro e w1 ⟨rfl, hI1, hb1, hk1⟩; have HI1 := iC.mk hI1; have HK1 := iC.mk (hK.trans ⟨hb1, hk1⟩); clear hI1 hb1 hk1 hI hK)
      go_roundw
      case rel => exact ⟨2, by omega, by go_num, ⟨Bf.step (k := 1) HI1.out (by omega) (by first | rfl | (show _ = x / 281474976710656 % 256; rw [IntKind.wrap_u64]; omega) | (show _ = x / 281474976710656 % 256; omega))⟩, HK1⟩
      case measure => simp [intOf]
    · have hI := HI.out
      have hK := HK.out
      clear HI HK
      go_wp2_with (go_at_call 90; refine (Tryd.Buffer_WriteByte_kept B b _ _ wr hI (Nat.le_trans hB hK.size) (cells_one _) (kK l x 8 2 hl (by omega))).mono ?_; rintro e w1 ⟨rfl, hI1, hb1, hk1⟩; have HI1 := iC.mk hI1; have HK1 := iC.mk (hK.trans ⟨hb1, hk1⟩); clear hI1 hb1 hk1 hI hK)
      go_roundw
      case rel => exact ⟨3, by omega, by go_num, ⟨Bf.step (k := 2) HI1.out (by omega) (by first | rfl | (show _ = x / 1099511627776 % 256; rw [IntKind.wrap_u64]; omega) | (show _ = x / 1099511627776 % 256; omega))⟩, HK1⟩
      case measure => simp [intOf]
    · have hI := HI.out
      have hK := HK.out
      clear HI HK
      go_wp2_with (go_at_call 90; refine (Tryd.Buffer_WriteByte_kept B b _ _ wr hI (Nat.le_trans hB hK.size) (cells_one _) (kK l x 8 3 hl (by omega))).mono ?_; rintro e w1 ⟨rfl, hI1, hb1, hk1⟩; have HI1 := iC.mk hI1; have HK1 := iC.mk (hK.trans ⟨hb1, hk1⟩); clear hI1 hb1 hk1 hI hK)
      go_roundw
      case rel => exact ⟨4, by omega, by go_num, ⟨Bf.step (k := 3) HI1.out (by omega) (by first | rfl | (show _ = x / 4294967296 % 256; rw [IntKind.wrap_u64]; omega) | (show _ = x / 4294967296 % 256; omega))⟩, HK1⟩
      case measure => simp [intOf]
    · have hI := HI.out
      have hK := HK.out
      clear HI HK
      go_wp2_with (go_at_call 90; refine (Tryd.Buffer_WriteByte_kept B b _ _ wr hI (Nat.le_trans hB hK.size) (cells_one _) (kK l x 8 4 hl (by omega))).mono ?_; rintro e w1 ⟨rfl, hI1, hb1, hk1⟩; have HI1 := iC.mk hI1; have HK1 := iC.mk (hK.trans ⟨hb1, hk1⟩); clear hI1 hb1 hk1 hI hK)
      go_roundw
      case rel => exact ⟨5, by omega, by go_num, ⟨Bf.step (k := 4) HI1.out (by omega) (by first | rfl | (show _ = x / 16777216 % 256; rw [IntKind.wrap_u64]; omega) | (show _ = x / 16777216 % 256; omega))⟩, HK1⟩
      case measure => simp [intOf]
    · have hI := HI.out
      have hK := HK.out
      clear HI HK
      go_wp2_with (go_at_call 90; refine (Tryd.Buffer_WriteByte_kept B b _ _ wr hI (Nat.le_trans hB hK.size) (cells_one _) (kK l x 8 5 hl (by omega))).mono ?_; rintro e w1 ⟨rfl, hI1, hb1, hk1⟩; have HI1 := iC.mk hI1; have HK1 := iC.mk (hK.trans ⟨hb1, hk1⟩); clear hI1 hb1 hk1 hI hK)
      go_roundw
      case rel => exact ⟨6, by omega, by go_num, ⟨Bf.step (k := 5) HI1.out (by omega) (by first | rfl | (show _ = x / 65536 % 256; rw [IntKind.wrap_u64]; omega) | (show _ = x / 65536 % 256; omega))⟩, HK1⟩
      case measure => simp [intOf]
    · have hI := HI.out
      have hK := HK.out
      clear HI HK
      go_wp2_with (go_at_call 90; refine (Tryd.Buffer_WriteByte_kept B b _ _ wr hI (Nat.le_trans hB hK.size) (cells_one _) (kK l x 8 6 hl (by omega))).mono ?_; rintro e w1 ⟨rfl, hI1, hb1, hk1⟩; have HI1 := iC.mk hI1; have HK1 := iC.mk (hK.trans ⟨hb1, hk1⟩); clear hI1 hb1 hk1 hI hK)
      go_roundw
      case rel => exact ⟨7, by omega, by go_num, ⟨Bf.step (k := 6) HI1.out (by omega) (by first | rfl | (show _ = x / 256 % 256; rw [IntKind.wrap_u64]; omega) | (show _ = x / 256 % 256; omega))⟩, HK1⟩
      case measure => simp [intOf]
    · have hI := HI.out
      have hK := HK.out
      clear HI HK
      go_wp2_with (go_at_call 90; refine (Tryd.Buffer_WriteByte_kept B b _ _ wr hI (Nat.le_trans hB hK.size) (cells_one _) (kK l x 8 7 hl (by omega))).mono ?_; rintro e w1 ⟨rfl, hI1, hb1, hk1⟩; have HI1 := iC.mk hI1; have HK1 := iC.mk (hK.trans ⟨hb1, hk1⟩); clear hI1 hb1 hk1 hI hK)
      go_roundw
      case rel => exact ⟨8, by omega, by go_num, ⟨Bf.step (k := 7) HI1.out (by omega) (by first | rfl | (show _ = x / 1 % 256; rw [IntKind.wrap_u64]; omega) | (show _ = x / 1 % 256; omega))⟩, HK1⟩
      case measure => simp [intOf]
    · go_wp2
      go_end0
      refine ⟨rfl, ?_, HK.out⟩
      have := HI.out
      rwa [List.take_of_length_le (by rw [iQ]; exact Nat.le_refl _)] at this
end Go.Proofs.YtgfkgppomaapiaaDoor.K
end

section
namespace Go.Proofs.YtgfkgppomaapiaaDoor.K
open RowKit YtgfkgppomaapiaaDoorW.PrintWords YtgfkgppomaapiaaDoorW.PrintLast YtgfkgppomaapiaaDoorW.PrintMore My
theorem kT {α : Type} (e : α → List UInt8) (z : α) (l : List α) (k : Nat) (h : k < l.length) : (l.take (k + 1)).flatMap e = (l.take k).flatMap e ++ e (l.getD k z) := by
  rw [kZ z l k h, List.flatMap_append]
  simp
theorem qQ {α : Type} (e : α → List UInt8) (l : List α) (k : Nat) : ((l.take k).flatMap e).length ≤ (l.flatMap e).length := by
  conv => rhs; rw [← List.take_append_drop k l, List.flatMap_append, List.length_append]
  omega
theorem IB (n : Nat) (l : List Int) : (l.flatMap (layB · n)).length = n * l.length := by
  induction l with
  | nil => rfl
  | cons x l ih => rw [List.flatMap_cons, List.length_append, ih, iQ, List.length_cons, Nat.mul_add]; omega
theorem Y3 (l : List Int) (k : Nat) : rd l (k : Int) = l.getD k 0 := by unfold rd; rw [Int.toNat_natCast]
set_option maxHeartbeats 2000000 in
theorem uC (b : Nat) (l : List UInt8) (A : Option Addr) (c : Nat) (ns : List Int) (w0 w : World) (h : Bf w0.heap.size b l w) (hb : Below w0.heap.size w0 w) (hr : Kd.C (Kd.int .i64) w0 A ns.length ns) (hl : l.length + 1 + ns.length ≤ 140737488355328) :
    Calls Tryd.prog 51 #[.pointer (some ⟨b, 0, none⟩), .slice A ns.length c] w fun e w' => e = .returned (.tuple #[]) ∧ Bf w0.heap.size b (l ++ rM ns) w' ∧ Kp w0.heap.size b w w' := by
  have HR := iC.mk hr
  have H0 := iC.mk h
  have HB0 := iC.mk hb
  have hm := kX hr
  clear hr h hb
  go_enter Tryd.func51, Tryd.ntmps51
  go_wp2_with (go_at_call 53; refine (pM _ _ l _ _ H0.out HB0.out.size (by omega)).mono ?_; rintro e w1 ⟨rfl, hI, hK⟩; have HI1 := iC.mk hI; have HK1 := iC.mk hK; clear hI hK)
  go_loopw [12] (fun i wr => ∃ k : Nat, k ≤ ns.length ∧ i = .int .i64 k ∧ iC (Bf w0.heap.size b (l ++ layB ns.length 1 ++ (ns.take k).flatMap (layB · 1)) wr) ∧ iC (Kp w0.heap.size b w wr)) (fun i _ => ns.length - (intOf i).toNat)
  case atStart => exact ⟨0, Nat.zero_le _, rfl, ⟨by rw [List.take_zero, List.flatMap_nil, List.append_nil]; exact HI1.out⟩, HK1⟩
  case round =>
    obtain ⟨k, hk, rfl, HI, HK⟩ := hrel
    clear HI1 HK1
    by_cases hlt : k < ns.length
    · obtain ⟨ad, rfl, hx⟩ := Kd.at_int (Kd.C_below HR.out (HB0.out.trans HK.out.1)) (k : Int) (by omega) (by omega)
      rw [Y3, Int.toNat_natCast] at hx
      have hts := iC.mk (kT (layB · 1) 0 ns k hlt)
      have hlen : (l ++ layB ns.length 1 ++ (ns.take k).flatMap (layB · 1)).length + 1 ≤ 140737488355328 := by
        rw [List.length_append, List.length_append, iQ, IB, List.length_take]
        omega
      have HL := iC.mk hlen
      clear hlen
      generalize ns.getD k 0 = v at hx hts
      go_wp2_with (go_at_call 53; refine (pM _ _ _ _ _ HI.out (HB0.out.trans HK.out.1).size HL.out).mono ?_; rintro e w1 ⟨rfl, hI, hK⟩; have HI1 := iC.mk hI; have HK1 := iC.mk (HK.out.trans hK); clear hI hK)
      go_roundw
      case rel => exact ⟨k + 1, by omega, by go_num, ⟨by rw [hts.out, ← List.append_assoc]; exact HI1.out⟩, HK1⟩
      case measure => simp [intOf]; omega
    · obtain rfl : k = ns.length := by omega
      go_wp2
      go_end0
      refine ⟨rfl, ?_, HK.out⟩
      have := HI.out
      rw [List.take_length] at this
      rw [rM, ← List.append_assoc]
      exact this
def zK : jP := z139
theorem UI (l : List jP) (k : Nat) : iY l (k : Int) = l.getD k zK := by unfold iY zK; rw [Int.toNat_natCast]
theorem RN (f : jP) : (mW f).length = 9 + 4 * f.f0.length := uG f
set_option maxHeartbeats 4000000 in
theorem yF (b : Nat) (l : List UInt8) (A : Option Addr) (c : Nat) (fs : List jP) (w0 w : World) (h : Bf w0.heap.size b l w) (hb : Below w0.heap.size w0 w) (hr : Kd.C k139 w0 A fs.length fs) (hl : l.length + (kJ fs).length ≤ 140737488355328) :
    Calls Tryd.prog 52 #[.pointer (some ⟨b, 0, none⟩), .slice A fs.length c] w fun e w' => e = .returned (.tuple #[]) ∧ Bf w0.heap.size b (l ++ kJ fs) w' ∧ Kp w0.heap.size b w w' := by
  have HR := iC.mk hr
  have H0 := iC.mk h
  have HB0 := iC.mk hb
  have hm := kX hr
  have hl' : l.length + 4 + (fs.flatMap mW).length ≤ 140737488355328 := by
    unfold kJ at hl
    rw [List.length_append, iQ] at hl
    omega
  clear hr h hb hl
  go_enter Tryd.func52, Tryd.ntmps52
  go_wp2_with (go_at_call 53; refine (nN _ _ l _ _ H0.out HB0.out.size (by omega)).mono ?_; rintro e w1 ⟨rfl, hI, hK⟩; have HI1 := iC.mk hI; have HK1 := iC.mk hK; clear hI hK)
  go_loopw [14] (fun i wr => ∃ k : Nat, k ≤ fs.length ∧ i = .int .i64 k ∧ iC (Bf w0.heap.size b (l ++ layB fs.length 4 ++ (fs.take k).flatMap mW) wr) ∧ iC (Kp w0.heap.size b w wr)) (fun i _ => fs.length - (intOf i).toNat)
  case atStart => exact ⟨0, Nat.zero_le _, rfl, ⟨by rw [List.take_zero, List.flatMap_nil, List.append_nil]; exact HI1.out⟩, HK1⟩
  case round =>
    obtain ⟨k, hk, rfl, HI, HK⟩ := hrel
    clear HI1 HK1
    by_cases hlt : k < fs.length
    · obtain ⟨ad, A1, c1, rfl, hx0, hx1, hl1, hC1⟩ := mG (Kd.C_below HR.out (HB0.out.trans HK.out.1)) (k : Int) (by omega) (by omega)
      have hC0 : Kd.C (Kd.int .i64) w0 A1 (fs.getD k zK).f0.length (fs.getD k zK).f0 := by
        obtain ⟨ad2, A2, c2, e2, hy0, hy1, hl2, hC2⟩ := mG HR.out (k : Int) (by omega) (by omega)
        have hz := kY (HB0.out.trans HK.out.1) hy0
        injection e2 with e2
        subst e2
        rw [hx0] at hz
        injection hz with hz
        injection hz with hz1 hz2 hz3
        subst hz1
        rw [UI] at hC2
        exact hC2
      rw [UI] at hx0 hx1 hl1
      rw [Int.toNat_natCast] at hx0 hx1
      clear hC1
      have hts := iC.mk (kT mW zK fs k hlt)
      have hle := qQ mW fs (k + 1)
      rw [hts.out, List.length_append, RN] at hle
      obtain ⟨f, hf⟩ : ∃ f, f = fs.getD k zK := ⟨_, rfl⟩
      rw [← hf] at hx0 hx1 hl1 hC0 hts hle
      clear hf
      have HC0 := iC.mk hC0
      have hkm := kX hC0
      obtain ⟨pre, hpre⟩ : ∃ p, p = l ++ layB fs.length 4 ++ (fs.take k).flatMap mW := ⟨_, rfl⟩
      have hpl : pre.length + 9 + 4 * f.f0.length ≤ 140737488355328 := by
        rw [hpre, List.length_append, List.length_append, iQ]
        omega
      have hrest : l ++ layB fs.length 4 ++ (fs.take (k + 1)).flatMap mW = pre ++ mW f := by
        rw [hts.out, ← List.append_assoc, hpre]
      rw [← hpre] at HI
      have HREST := iC.mk hrest
      clear hts hpre hrest hle hC0 hl'
      obtain ⟨wo, rfl⟩ : ∃ wo : World, wo = wr := ⟨_, rfl⟩
      have HBX := iC.mk (Bf.alloc HI.out (.cells #[.slice A1 f.f0.length c1, .int .i64 f.f1] 139))
      have HKX := iC.mk (HK.out.alloc (HB0.out.trans HK.out.1).size (.cells #[.slice A1 f.f0.length c1, .int .i64 f.f1] 139))
      have hbne : w.heap.size ≤ w.heap.size := Nat.le_refl _
      have HNE := iC.mk (show wo.heap.size ≠ b from by have := HI.out.lt; omega)
      clear hbne
      go_wp2_with (go_at_call 53; refine (pM _ _ pre _ _ HBX.out (HB0.out.trans HKX.out.1).size (by omega)).mono ?_; rintro e w1 ⟨rfl, hI, hK⟩; have HI1 := iC.mk hI; have HK1 := iC.mk (HKX.out.trans hK); have hblk := hK.block (iZ rfl) HNE.out (by decide); have HBL := iC.mk hblk; clear hI hK; have hz0 := (iE hblk 0); have hz1 := (iE hblk 1); have hz0 : w1.cell? ⟨wo.heap.size, 0, none⟩ = some (.slice A1 f.f0.length c1) := hz0.trans rfl; have hz1 : w1.cell? ⟨wo.heap.size, 1, none⟩ = some (.int .i64 f.f1) := hz1.trans rfl; clear hblk)
      clear hz0 hz1
      go_loopw [26] (fun i wi => ∃ m : Nat, m ≤ f.f0.length ∧ i = .int .i64 m ∧ iC (Bf w0.heap.size b (pre ++ layB f.f0.length 1 ++ (f.f0.take m).flatMap (layB · 4)) wi) ∧ iC (Kp w0.heap.size b w wi) ∧ iC (wi.heap[wo.heap.size]? = some (.cells #[.slice A1 f.f0.length c1, .int .i64 f.f1] 139 (0, 0)))) (fun i _ => f.f0.length - (intOf i).toNat)
      case atStart => exact ⟨0, Nat.zero_le _, rfl, ⟨by rw [List.take_zero, List.flatMap_nil, List.append_nil]; exact HI1.out⟩, HK1, HBL⟩
      case round =>
        obtain ⟨m, hmx, rfl, HIm, HKm, HBm⟩ := hrel
        clear HI1 HK1 HBL
        have hcap : (pre ++ layB f.f0.length 1 ++ (f.f0.take m).flatMap (layB · 4)).length + 8 ≤ 140737488355328 := by
          rw [List.length_append, List.length_append, iQ, IB, List.length_take]
          omega
        by_cases hml : m < f.f0.length
        · have HL := iC.mk (show (pre ++ layB f.f0.length 1 ++ (f.f0.take m).flatMap (layB · 4)).length + 4 ≤ 140737488355328 from by omega)
          obtain ⟨ad2, rfl, hx⟩ := Kd.at_int (Kd.C_below HC0.out (HB0.out.trans HKm.out.1)) (m : Int) (by omega) (by omega)
          rw [Y3, Int.toNat_natCast] at hx
          have hts := iC.mk (kT (layB · 4) 0 f.f0 m hml)
          generalize f.f0.getD m 0 = v at hx hts
          clear hcap
          go_wp2_with (go_at_call 53; refine (nN _ _ _ _ _ HIm.out (HB0.out.trans HKm.out.1).size HL.out).mono ?_; rintro e w1 ⟨rfl, hI, hK⟩; have HI1 := iC.mk hI; have HK1 := iC.mk (HKm.out.trans hK); have HB1 := iC.mk (hK.block HBm.out HNE.out (by decide)); clear hI hK)
          go_roundw
          case rel => exact ⟨m + 1, by omega, by go_num, ⟨by rw [hts.out, ← List.append_assoc]; exact HI1.out⟩, HK1, HB1⟩
          case measure => simp [intOf]; omega
        · obtain rfl : m = f.f0.length := by omega
          have hI' := HIm.out
          rw [List.take_length] at hI' hcap
          have HI' := iC.mk hI'
          have HCAP := iC.mk hcap
          clear hI' hcap HIm
          have hz1 : wr.cell? ⟨wo.heap.size, 1, none⟩ = some (.int .i64 f.f1) := (iE HBm.out 1).trans rfl
          go_wp2_with (go_at_call 91; refine (YZ _ _ _ _ _ HI'.out (HB0.out.trans HKm.out.1).size HCAP.out).mono ?_; rintro e w1 ⟨rfl, hI, hK⟩; have HI1 := iC.mk hI; have HK1 := iC.mk (HKm.out.trans hK); clear hI hK)
          go_roundw
          case rel => exact ⟨k + 1, by omega, by go_num, ⟨by rw [HREST.out, mW, ← List.append_assoc, ← List.append_assoc]; exact HI1.out⟩, HK1⟩
          case measure => simp [intOf]; omega
    · obtain rfl : k = fs.length := by omega
      go_wp2
      go_end0
      refine ⟨rfl, ?_, HK.out⟩
      have := HI.out
      rw [List.take_length] at this
      rw [kJ, ← List.append_assoc]
      exact this
def vW : jF := z86
theorem TK (l : List jF) (k : Nat) : iT l (k : Int) = l.getD k vW := by unfold iT vW; rw [Int.toNat_natCast]
set_option maxHeartbeats 4000000 in
theorem yC (b : Nat) (l : List UInt8) (A : Option Addr) (c : Nat) (es : List jF) (w0 w : World) (h : Bf w0.heap.size b l w) (hb : Below w0.heap.size w0 w) (hr : Kd.C k86 w0 A es.length es) (hl : l.length + (jU es).length ≤ 140737488355328) :
    Calls Tryd.prog 54 #[.pointer (some ⟨b, 0, none⟩), .slice A es.length c] w fun e w' => e = .returned (.tuple #[]) ∧ Bf w0.heap.size b (l ++ jU es) w' ∧ Kp w0.heap.size b w w' := by
  have HR := iC.mk hr
  have H0 := iC.mk h
  have HB0 := iC.mk hb
  have hm := kX hr
  have hl' : l.length + 4 + (es.flatMap lG).length ≤ 140737488355328 := by
    unfold jU at hl
    rw [List.length_append, iQ] at hl
    omega
  clear hr h hb hl
  go_enter Tryd.func54, Tryd.ntmps54
  go_wp2_with (go_at_call 53; refine (nN _ _ l _ _ H0.out HB0.out.size (by omega)).mono ?_; rintro e w1 ⟨rfl, hI, hK⟩; have HI1 := iC.mk hI; have HK1 := iC.mk hK; clear hI hK)
  go_loopw [12] (fun i wr => ∃ k : Nat, k ≤ es.length ∧ i = .int .i64 k ∧ iC (Bf w0.heap.size b (l ++ layB es.length 4 ++ (es.take k).flatMap lG) wr) ∧ iC (Kp w0.heap.size b w wr)) (fun i _ => es.length - (intOf i).toNat)
  case atStart => exact ⟨0, Nat.zero_le _, rfl, ⟨by rw [List.take_zero, List.flatMap_nil, List.append_nil]; exact HI1.out⟩, HK1⟩
  case round =>
    obtain ⟨k, hk, rfl, HI, HK⟩ := hrel
    clear HI1 HK1
    by_cases hlt : k < es.length
    · obtain ⟨ad, A1, c1, rfl, hx0, hx1, hl1, hC1⟩ := oM (Kd.C_below HR.out (HB0.out.trans HK.out.1)) (k : Int) (by omega) (by omega)
      have hC0 : Kd.C k139 w0 A1 (es.getD k vW).f1.length (es.getD k vW).f1 := by
        obtain ⟨ad2, A2, c2, e2, hy0, hy1, hl2, hC2⟩ := oM HR.out (k : Int) (by omega) (by omega)
        have hz := kY (HB0.out.trans HK.out.1) hy1
        injection e2 with e2
        subst e2
        rw [hx1] at hz
        injection hz with hz
        injection hz with hz1 hz2 hz3
        subst hz1
        rw [TK] at hC2
        exact hC2
      rw [TK] at hx0 hx1 hl1
      rw [Int.toNat_natCast] at hx0 hx1
      clear hC1
      have hts := iC.mk (kT lG vW es k hlt)
      have hle := qQ lG es (k + 1)
      rw [hts.out, List.length_append] at hle
      obtain ⟨f, hf⟩ : ∃ f, f = es.getD k vW := ⟨_, rfl⟩
      rw [← hf] at hx0 hx1 hl1 hC0 hts hle
      clear hf
      have HC0 := iC.mk hC0
      have hkm := kX hC0
      obtain ⟨pre, hpre⟩ : ∃ p, p = l ++ layB es.length 4 ++ (es.take k).flatMap lG := ⟨_, rfl⟩
      have hpl : pre.length + 4 + (kJ f.f1).length ≤ 140737488355328 := by
        rw [lG, List.length_append, iQ] at hle
        rw [hpre, List.length_append, List.length_append, iQ]
        omega
      have HPL := iC.mk (show (pre ++ layB f.f0 4).length + (kJ f.f1).length ≤ 140737488355328 from by rw [List.length_append, iQ]; exact hpl)
      have hpl4 : pre.length + 4 ≤ 140737488355328 := by omega
      have HPL4 := iC.mk hpl4
      have hrest : l ++ layB es.length 4 ++ (es.take (k + 1)).flatMap lG = pre ++ lG f := by
        rw [hts.out, ← List.append_assoc, hpre]
      rw [← hpre] at HI
      have HREST := iC.mk hrest
      clear hts hpre hrest hle hC0 hl' hpl hpl4
      obtain ⟨wo, rfl⟩ : ∃ wo : World, wo = wr := ⟨_, rfl⟩
      have HBX := iC.mk (Bf.alloc HI.out (.cells #[.int .u32 f.f0, .slice A1 f.f1.length c1] 86))
      have HKX := iC.mk (HK.out.alloc (HB0.out.trans HK.out.1).size (.cells #[.int .u32 f.f0, .slice A1 f.f1.length c1] 86))
      have HNE := iC.mk (show wo.heap.size ≠ b from by have := HI.out.lt; omega)
      go_wp2_with (first | (go_at_call 50; refine (lH _ _ pre _ _ HBX.out (HB0.out.trans HKX.out.1).size HPL4.out).mono ?_; rintro e w1 ⟨rfl, hI, hK⟩; have HI1 := iC.mk hI; have HK1 := iC.mk (HKX.out.trans hK); have hblk := hK.block (iZ rfl) HNE.out (by decide); clear hI hK; have hz1 := (iE hblk 1); have hz1 : w1.cell? ⟨wo.heap.size, 1, none⟩ = some (.slice A1 f.f1.length c1) := hz1.trans rfl; clear hblk) | (go_at_call 52; refine (yF _ _ _ _ f.f1 w0 _ HI1.out (HB0.out.trans HK1.out.1) HC0.out HPL.out).mono ?_; rintro e w2 ⟨rfl, hI, hK⟩; have HI2 := iC.mk hI; have HK2 := iC.mk (HK1.out.trans hK); clear hI hK))
      go_roundw
      case rel => exact ⟨k + 1, by omega, by go_num, ⟨by rw [HREST.out, lG, ← List.append_assoc]; exact HI2.out⟩, HK2⟩
      case measure => simp [intOf]; omega
    · obtain rfl : k = es.length := by omega
      go_wp2
      go_end0
      refine ⟨rfl, ?_, HK.out⟩
      have := HI.out
      rw [List.take_length] at this
      rw [jU, ← List.append_assoc]
      exact this
theorem yG (l : List jP) (h : mJ l = true) : (kJ l).length ≤ 5004 := by
  unfold mJ at h
  simp only [Bool.and_eq_true, decide_eq_true_eq, List.all_eq_true] at h
  obtain ⟨h1, h2⟩ := h
  have : ∀ l : List jP, (∀ f ∈ l, oK f = true) → (l.flatMap mW).length ≤ 25 * l.length := by
    intro l
    induction l with
    | nil => intro _; simp
    | cons f l ih =>
      intro hf
      have h3 := hf f List.mem_cons_self
      unfold oK at h3
      simp only [Bool.and_eq_true, decide_eq_true_eq] at h3
      have := ih (fun g hg => hf g (List.mem_cons_of_mem _ hg))
      rw [List.flatMap_cons, List.length_append, uG, List.length_cons]
      omega
  have := this l h2
  unfold kJ
  rw [List.length_append, iQ]
  omega
theorem xP (l : List jF) (h : nG l = true) (h5 : l.length ≤ 5000) : (jU l).length ≤ 25040004 := by
  have : ∀ l : List jF, (∀ e ∈ l, mJ e.f1 = true) → (l.flatMap lG).length ≤ 5008 * l.length := by
    intro l
    induction l with
    | nil => intro _; simp
    | cons e l ih =>
      intro hf
      have h3 := yG _ (hf e List.mem_cons_self)
      have := ih (fun g hg => hf g (List.mem_cons_of_mem _ hg))
      rw [List.flatMap_cons, List.length_append, List.length_cons, lG, List.length_append, iQ]
      omega
  have := this l (yO l h)
  unfold jU
  rw [List.length_append, iQ]
  omega
theorem vC (l : List Int) (h : lJ (-1) l = true) : l.length ≤ 6 := by
  have := (rX l (-1) h (by omega)).2
  omega
end Go.Proofs.YtgfkgppomaapiaaDoor.K
end

section
namespace Go.Proofs.YtgfkgppomaapiaaDoor.K
open RowKit YtgfkgppomaapiaaDoorW.PrintWords YtgfkgppomaapiaaDoorW.PrintLast YtgfkgppomaapiaaDoorW.PrintMore My
def nums (l : List UInt8) : List Int := l.map fun c => (c.toNat : Int)
theorem lW (l : List UInt8) : (nums l).length = l.length := List.length_map ..
def encR (r : SRec) : List Int × Int := if jZ r = true then (if 60000 < (recE r).length then ([], 3) else (nums (recE r), 0)) else ([], 1)
def code_Encode.f (a0_0 : Int) (a0_1 : Int) (a0_2 : Int) (l0_3 : List Int) (l0_4 : List jP) (a0_5 : Int) (l0_6 : List kF) (a0_7 : Int) (a0_8 : Int) (l0_9 : List jF) : Option (List Int × Int) :=
  some (encR ⟨a0_0, a0_1, a0_2, l0_3, l0_4, ⟨a0_5, l0_6⟩, a0_7, a0_8, l0_9⟩)
theorem pU {w : World} {B base : Nat} {v : Value} {l : List UInt8} (h : w.ownsRow B 5 1 v (Lib.byteCells l).length (Lib.byteCells l)) (hb : base ≤ B) : Kd.R (Kd.int .u8) 5 w base (fun _ => True) v (nums l) := by
  refine Kd.R_lower (Kd.R_of_own ?_ (fun _ _ => trivial)) hb
  have e : Lib.byteCells l = encs (Value.int .u8) (nums l) := by simp [Lib.byteCells, encs, nums]
  have e2 : (nums l).length = (Lib.byteCells l).length := by rw [lW, Lib.byteCells_length]
  rw [e2, ← e]
  exact h
theorem jB (l : List Int) : (rM l).length = 1 + l.length := by unfold rM; rw [List.length_append, iQ, IB]; omega
def oZ (w : World) (r : List Int × Int) (e : Ending) (w' : World) : Prop := ∃ v0_ : Value, e = .returned (.tuple #[v0_, .int .u16 r.2]) ∧ Kd.R (Kd.int .u8) 5 w' w.heap.size (fun _ => True) v0_ r.1 ∧ Below w.heap.size w w'
theorem jc0 (a1 a2 : Int) (l3 : List Int) (l4 : List jP) (a5 : Int) (l6 : List kF) (a7 a8 : Int) (l9 : List jF) : recE ⟨1, a1, a2, l3, l4, ⟨a5, l6⟩, a7, a8, l9⟩ = [] ++ layB 1 1 ++ layB a1 4 ++ rM l3 ++ kJ l4 := by
  simp [recE, IE]
theorem j5_ (a1 a2 : Int) (l3 : List Int) (l4 : List jP) (a5 : Int) (l6 : List kF) (a7 a8 : Int) (l9 : List jF) : recE ⟨2, a1, a2, l3, l4, ⟨a5, l6⟩, a7, a8, l9⟩ = [] ++ layB 2 1 ++ layB a1 4 ++ layB a2 4 ++ rM l3 := by
  simp [recE, IE]
theorem jb1 (a1 a2 : Int) (l3 : List Int) (l4 : List jP) (a5 : Int) (l6 : List kF) (a7 a8 : Int) (l9 : List jF) : recE ⟨3, a1, a2, l3, l4, ⟨a5, l6⟩, a7, a8, l9⟩ = [] ++ layB 3 1 ++ layB a1 4 := by
  simp [recE, IE]
theorem ja1 (a1 a2 : Int) (l3 : List Int) (l4 : List jP) (a5 : Int) (l6 : List kF) (a7 a8 : Int) (l9 : List jF) : recE ⟨4, a1, a2, l3, l4, ⟨a5, l6⟩, a7, a8, l9⟩ = [] ++ layB 4 1 ++ layB a1 4 := by
  simp [recE, IE]
theorem jb2 (a1 a2 : Int) (l3 : List Int) (l4 : List jP) (a5 : Int) (l6 : List kF) (a7 a8 : Int) (l9 : List jF) : recE ⟨5, a1, a2, l3, l4, ⟨a5, l6⟩, a7, a8, l9⟩ = [] ++ layB 5 1 ++ layB a1 4 := by
  simp [recE, IE]
theorem j07 (a1 a2 : Int) (l3 : List Int) (l4 : List jP) (a5 : Int) (l6 : List kF) (a7 a8 : Int) (l9 : List jF) : recE ⟨7, a1, a2, l3, l4, ⟨a5, l6⟩, a7, a8, l9⟩ = [] ++ layB 7 1 ++ layB a1 4 ++ layB a7 4 ++ layB a8 4 ++ jU l9 := by
  simp [recE, IE]
theorem jb_ (a1 a2 : Int) (l3 : List Int) (l4 : List jP) (a5 : Int) (l6 : List kF) (a7 a8 : Int) (l9 : List jF) : recE ⟨6, a1, a2, l3, l4, ⟨a5, l6⟩, a7, a8, l9⟩ = [] ++ layB 6 1 ++ layB a1 4 ++ layB a5 4 ++ layB l6.length 1 ++ l6.flatMap oC := by
  simp [recE, IE, O9]
theorem I8 (l : List kF) : (l.flatMap oC).length = 5 * l.length := by
  induction l with
  | nil => rfl
  | cons x l ih => rw [List.flatMap_cons, List.length_append, ih, oC, List.length_append, iQ, iQ, List.length_cons]; omega
theorem UG (l : List kF) (k : Nat) : kU l (k : Int) = l.getD k yJ := by unfold kU yJ; rw [Int.toNat_natCast]
section
variable (a0 a1 a2 : Int) (A3 : Option Addr) (c3 : Nat) (l3 : List Int) (A4 : Option Addr) (c4 : Nat) (l4 : List jP) (a5 : Int) (A6 : Option Addr) (c6 : Nat) (l6 : List kF) (a7 a8 : Int) (A9 : Option Addr) (c9 : Nat) (l9 : List jF) (w : World)
  (h3 : Kd.C (Kd.int .i64) w A3 l3.length l3) (d3 : l3.length ≤ c3) (h4 : Kd.C k139 w A4 l4.length l4) (d4 : l4.length ≤ c4) (h6 : Kd.C k98 w A6 l6.length l6) (d6 : l6.length ≤ c6) (h9 : Kd.C k86 w A9 l9.length l9) (d9 : l9.length ≤ c9)
include h3 d3 h4 d4 h6 d6 h9 d9
set_option maxHeartbeats 8000000 in
set_option maxRecDepth 20000 in
theorem WZ (hs : jZ ⟨1, a1, a2, l3, l4, ⟨a5, l6⟩, a7, a8, l9⟩ = true) : Calls Tryd.prog 17 #[.agg #[.int .u8 1, .int .u32 a1, .int .u32 a2, .slice A3 l3.length c3, .slice A4 l4.length c4, .int .u32 a5, .slice A6 l6.length c6, .int .i64 a7, .int .i64 a8, .slice A9 l9.length c9]] w (oZ w (encR ⟨1, a1, a2, l3, l4, ⟨a5, l6⟩, a7, a8, l9⟩)) := by
  have H3 := iC.mk h3; have H4 := iC.mk h4; have H6 := iC.mk h6; have H9 := iC.mk h9
  clear h3 h4 h6 h9
  have HS := iC.mk hs
  have hl3 : l3.length ≤ 6 ∧ (kJ l4).length ≤ 5004 := by
    have h := HS.out
    rw [Y2, Bool.and_eq_true, Bool.and_eq_true] at h
    exact ⟨vC _ h.1.1, yG _ h.1.2⟩
  obtain ⟨q3, q4⟩ := hl3
  unfold encR
  rw [if_pos HS.out]
  have hm3 := kX H3.out
  have hm6 := kX H6.out
  obtain ⟨X, hX⟩ : ∃ X : List UInt8, X = recE ⟨1, a1, a2, l3, l4, ⟨a5, l6⟩, a7, a8, l9⟩ := ⟨_, rfl⟩
  rw [← hX]
  have HX := iC.mk hX
  have HLEN := iC.mk (show X.length = _ from congrArg List.length (hX.trans (jc0 _ _ _ _ _ _ _ _ _)))
  clear hs hX
  by_cases hbig : 60000 < X.length
  · rw [if_pos hbig]
    have hbigI : (60000 : Int) < (X.length : Int) := by omega
    clear hbig
    go_enter Tryd.func17, Tryd.ntmps17
    go_wp2_with (first | (go_at_call 19; refine (code_Sound.calls 1 a1 a2 A3 c3 l3 A4 c4 l4 a5 A6 c6 l6 a7 a8 A9 c9 l9 _ _ (Kd.C_below H3.out bel_) d3 (Kd.C_below H4.out bel_) d4 (Kd.C_below H6.out bel_) d6 (Kd.C_below H9.out bel_) d9 rfl).mono ?_; rintro e w1 ⟨rfl, hb1⟩; rw [HS.out]; have HBW := iC.mk (show Below w.heap.size w w1 from iK (iG (Below.refl _ _) _) hb1); have HBK := iC.mk (iO hb1 (iZ rfl)); clear hb1; have HI0 := iC.mk (Bf.fresh w1); have HK0 := iC.mk ((Kp.refl w1.heap.size w1.heap.size w1).alloc (Nat.le_refl _) (.cells #[.slice none 0 0, .int .i64 0, .int .i8 0] 91)); obtain ⟨z0, z1, z2, z3, z4, z5, z6, z7, z8, z9, y0, y1, y2, y3, y4, y5, y6, y7, y8, y9⟩ := ten (jM (o := (.cells #[.slice none 0 0, .int .i64 0, .int .i8 0] 91)) HBK.out); clear y0 y1 y2 y3 y4 y5 y6 y7 y8 y9) | (go_at_call 49; refine (oG w1.heap.size w1.heap.size _ _ _ HI0.out HK0.out.1.size (by first | omega | (simp only [List.length_append, iQ, List.length_nil, jB]; omega))).mono ?_; rintro e w2 ⟨rfl, hI, hK⟩; have HI1 := iC.mk hI; have HK1 := iC.mk (HK0.out.trans hK); clear hI hK z0 z1 z2 z3 z4 z5 z6 z7 z8 z9; obtain ⟨z0, z1, z2, z3, z4, z5, z6, z7, z8, z9, y0, y1, y2, y3, y4, y5, y6, y7, y8, y9⟩ := ten (iO HK1.out.1 HBK.out); clear y0 y1 y2 y3 y4 y5 y6 y7 y8 y9) | (go_at_call 50; refine (lH w1.heap.size w1.heap.size _ _ _ HI1.out HK1.out.1.size (by first | omega | (simp only [List.length_append, iQ, List.length_nil, jB]; omega))).mono ?_; rintro e w3 ⟨rfl, hI, hK⟩; have HI2 := iC.mk hI; have HK2 := iC.mk (HK1.out.trans hK); clear hI hK z0 z1 z2 z3 z4 z5 z6 z7 z8 z9; obtain ⟨z0, z1, z2, z3, z4, z5, z6, z7, z8, z9, y0, y1, y2, y3, y4, y5, y6, y7, y8, y9⟩ := ten (iO HK2.out.1 HBK.out); clear y0 y1 y2 y3 y4 y5 y6 y7 y8 y9) | (go_at_call 51; refine (uC w1.heap.size _ _ _ l3 w1 _ HI2.out HK2.out.1 (Kd.C_below H3.out HBW.out) (by first | omega | (simp only [List.length_append, iQ, List.length_nil, jB]; omega))).mono ?_; rintro e w4 ⟨rfl, hI, hK⟩; have HI3 := iC.mk hI; have HK3 := iC.mk (HK2.out.trans hK); clear hI hK z0 z1 z2 z3 z4 z5 z6 z7 z8 z9; obtain ⟨z0, z1, z2, z3, z4, z5, z6, z7, z8, z9, y0, y1, y2, y3, y4, y5, y6, y7, y8, y9⟩ := ten (iO HK3.out.1 HBK.out); clear y0 y1 y2 y3 y4 y5 y6 y7 y8 y9) | (go_at_call 52; refine (yF w1.heap.size _ _ _ l4 w1 _ HI3.out HK3.out.1 (Kd.C_below H4.out HBW.out) (by first | omega | (simp only [List.length_append, iQ, List.length_nil, jB]; omega))).mono ?_; rintro e w5 ⟨rfl, hI, hK⟩; have HI4 := iC.mk hI; have HK4 := iC.mk (HK3.out.trans hK); clear hI hK z0 z1 z2 z3 z4 z5 z6 z7 z8 z9; obtain ⟨z0, z1, z2, z3, z4, z5, z6, z7, z8, z9, y0, y1, y2, y3, y4, y5, y6, y7, y8, y9⟩ := ten (iO HK4.out.1 HBK.out); clear y0 y1 y2 y3 y4 y5 y6 y7 y8 y9) | (go_at_call 55; refine (Tryd.Buffer_Len w1.heap.size w1.heap.size _ _ (HI4.out)).mono ?_; rintro e wl ⟨rfl, nl, rfl⟩; rw [Lib.byteCells_length, ← HLEN.out]))
    go_ret2
    exact ⟨_, rfl, Kd.R_nil _ _ _ _ _, by have hz := HBW.out; have hy := HK4.out.1; exact iF (iK hz hy) _⟩
  · rw [if_neg hbig]
    have hbigI : ¬ (60000 : Int) < (X.length : Int) := by omega
    clear hbig
    go_enter Tryd.func17, Tryd.ntmps17
    go_wp2_with (first | (go_at_call 19; refine (code_Sound.calls 1 a1 a2 A3 c3 l3 A4 c4 l4 a5 A6 c6 l6 a7 a8 A9 c9 l9 _ _ (Kd.C_below H3.out bel_) d3 (Kd.C_below H4.out bel_) d4 (Kd.C_below H6.out bel_) d6 (Kd.C_below H9.out bel_) d9 rfl).mono ?_; rintro e w1 ⟨rfl, hb1⟩; rw [HS.out]; have HBW := iC.mk (show Below w.heap.size w w1 from iK (iG (Below.refl _ _) _) hb1); have HBK := iC.mk (iO hb1 (iZ rfl)); clear hb1; have HI0 := iC.mk (Bf.fresh w1); have HK0 := iC.mk ((Kp.refl w1.heap.size w1.heap.size w1).alloc (Nat.le_refl _) (.cells #[.slice none 0 0, .int .i64 0, .int .i8 0] 91)); obtain ⟨z0, z1, z2, z3, z4, z5, z6, z7, z8, z9, y0, y1, y2, y3, y4, y5, y6, y7, y8, y9⟩ := ten (jM (o := (.cells #[.slice none 0 0, .int .i64 0, .int .i8 0] 91)) HBK.out); clear y0 y1 y2 y3 y4 y5 y6 y7 y8 y9) | (go_at_call 49; refine (oG w1.heap.size w1.heap.size _ _ _ HI0.out HK0.out.1.size (by first | omega | (simp only [List.length_append, iQ, List.length_nil, jB]; omega))).mono ?_; rintro e w2 ⟨rfl, hI, hK⟩; have HI1 := iC.mk hI; have HK1 := iC.mk (HK0.out.trans hK); clear hI hK z0 z1 z2 z3 z4 z5 z6 z7 z8 z9; obtain ⟨z0, z1, z2, z3, z4, z5, z6, z7, z8, z9, y0, y1, y2, y3, y4, y5, y6, y7, y8, y9⟩ := ten (iO HK1.out.1 HBK.out); clear y0 y1 y2 y3 y4 y5 y6 y7 y8 y9) | (go_at_call 50; refine (lH w1.heap.size w1.heap.size _ _ _ HI1.out HK1.out.1.size (by first | omega | (simp only [List.length_append, iQ, List.length_nil, jB]; omega))).mono ?_; rintro e w3 ⟨rfl, hI, hK⟩; have HI2 := iC.mk hI; have HK2 := iC.mk (HK1.out.trans hK); clear hI hK z0 z1 z2 z3 z4 z5 z6 z7 z8 z9; obtain ⟨z0, z1, z2, z3, z4, z5, z6, z7, z8, z9, y0, y1, y2, y3, y4, y5, y6, y7, y8, y9⟩ := ten (iO HK2.out.1 HBK.out); clear y0 y1 y2 y3 y4 y5 y6 y7 y8 y9) | (go_at_call 51; refine (uC w1.heap.size _ _ _ l3 w1 _ HI2.out HK2.out.1 (Kd.C_below H3.out HBW.out) (by first | omega | (simp only [List.length_append, iQ, List.length_nil, jB]; omega))).mono ?_; rintro e w4 ⟨rfl, hI, hK⟩; have HI3 := iC.mk hI; have HK3 := iC.mk (HK2.out.trans hK); clear hI hK z0 z1 z2 z3 z4 z5 z6 z7 z8 z9; obtain ⟨z0, z1, z2, z3, z4, z5, z6, z7, z8, z9, y0, y1, y2, y3, y4, y5, y6, y7, y8, y9⟩ := ten (iO HK3.out.1 HBK.out); clear y0 y1 y2 y3 y4 y5 y6 y7 y8 y9) | (go_at_call 52; refine (yF w1.heap.size _ _ _ l4 w1 _ HI3.out HK3.out.1 (Kd.C_below H4.out HBW.out) (by first | omega | (simp only [List.length_append, iQ, List.length_nil, jB]; omega))).mono ?_; rintro e w5 ⟨rfl, hI, hK⟩; have HI4 := iC.mk hI; have HK4 := iC.mk (HK3.out.trans hK); clear hI hK z0 z1 z2 z3 z4 z5 z6 z7 z8 z9; obtain ⟨z0, z1, z2, z3, z4, z5, z6, z7, z8, z9, y0, y1, y2, y3, y4, y5, y6, y7, y8, y9⟩ := ten (iO HK4.out.1 HBK.out); clear y0 y1 y2 y3 y4 y5 y6 y7 y8 y9) | (go_at_call 55; refine (Tryd.Buffer_Len w1.heap.size w1.heap.size _ _ (HI4.out)).mono ?_; rintro e wl ⟨rfl, nl, rfl⟩; rw [Lib.byteCells_length, ← HLEN.out]) | (go_at_call 56; refine (Tryd.Buffer_Bytes w1.heap.size w1.heap.size _ _ (HI4.out.drewN _)).mono ?_; rintro e wb ⟨v, rfl, hv, nb, rfl⟩; have HV := iC.mk hv; clear hv))
    go_ret2
    exact ⟨_, rfl, by rw [HX.out, jc0]; exact pU HV.out HBW.out.size, by have hz := HBW.out; have hy := HK4.out.1; exact iF (iK hz hy) _⟩
set_option maxHeartbeats 8000000 in
set_option maxRecDepth 20000 in
theorem XX (hs : jZ ⟨2, a1, a2, l3, l4, ⟨a5, l6⟩, a7, a8, l9⟩ = true) : Calls Tryd.prog 17 #[.agg #[.int .u8 2, .int .u32 a1, .int .u32 a2, .slice A3 l3.length c3, .slice A4 l4.length c4, .int .u32 a5, .slice A6 l6.length c6, .int .i64 a7, .int .i64 a8, .slice A9 l9.length c9]] w (oZ w (encR ⟨2, a1, a2, l3, l4, ⟨a5, l6⟩, a7, a8, l9⟩)) := by
  have H3 := iC.mk h3; have H4 := iC.mk h4; have H6 := iC.mk h6; have H9 := iC.mk h9
  clear h3 h4 h6 h9
  have HS := iC.mk hs
  have q3 : l3.length ≤ 6 := by
    have h := HS.out
    rw [Y1, Bool.and_eq_true] at h
    exact vC _ h.1
  unfold encR
  rw [if_pos HS.out]
  have hm3 := kX H3.out
  have hm6 := kX H6.out
  obtain ⟨X, hX⟩ : ∃ X : List UInt8, X = recE ⟨2, a1, a2, l3, l4, ⟨a5, l6⟩, a7, a8, l9⟩ := ⟨_, rfl⟩
  rw [← hX]
  have HX := iC.mk hX
  have HLEN := iC.mk (show X.length = _ from congrArg List.length (hX.trans (j5_ _ _ _ _ _ _ _ _ _)))
  clear hs hX
  by_cases hbig : 60000 < X.length
  · rw [if_pos hbig]
    have hbigI : (60000 : Int) < (X.length : Int) := by omega
    clear hbig
    go_enter Tryd.func17, Tryd.ntmps17
    go_wp2_with (first | (go_at_call 19; refine (code_Sound.calls 2 a1 a2 A3 c3 l3 A4 c4 l4 a5 A6 c6 l6 a7 a8 A9 c9 l9 _ _ (Kd.C_below H3.out bel_) d3 (Kd.C_below H4.out bel_) d4 (Kd.C_below H6.out bel_) d6 (Kd.C_below H9.out bel_) d9 rfl).mono ?_; rintro e w1 ⟨rfl, hb1⟩; rw [HS.out]; have HBW := iC.mk (show Below w.heap.size w w1 from iK (iG (Below.refl _ _) _) hb1); have HBK := iC.mk (iO hb1 (iZ rfl)); clear hb1; have HI0 := iC.mk (Bf.fresh w1); have HK0 := iC.mk ((Kp.refl w1.heap.size w1.heap.size w1).alloc (Nat.le_refl _) (.cells #[.slice none 0 0, .int .i64 0, .int .i8 0] 91)); obtain ⟨z0, z1, z2, z3, z4, z5, z6, z7, z8, z9, y0, y1, y2, y3, y4, y5, y6, y7, y8, y9⟩ := ten (jM (o := (.cells #[.slice none 0 0, .int .i64 0, .int .i8 0] 91)) HBK.out); clear y0 y1 y2 y3 y4 y5 y6 y7 y8 y9) | (go_at_call 49; refine (oG w1.heap.size w1.heap.size _ _ _ HI0.out HK0.out.1.size (by first | omega | (simp only [List.length_append, iQ, List.length_nil, jB]; omega))).mono ?_; rintro e w2 ⟨rfl, hI, hK⟩; have HI1 := iC.mk hI; have HK1 := iC.mk (HK0.out.trans hK); clear hI hK z0 z1 z2 z3 z4 z5 z6 z7 z8 z9; obtain ⟨z0, z1, z2, z3, z4, z5, z6, z7, z8, z9, y0, y1, y2, y3, y4, y5, y6, y7, y8, y9⟩ := ten (iO HK1.out.1 HBK.out); clear y0 y1 y2 y3 y4 y5 y6 y7 y8 y9) | (go_at_call 50; refine (lH w1.heap.size w1.heap.size _ _ _ HI1.out HK1.out.1.size (by first | omega | (simp only [List.length_append, iQ, List.length_nil, jB]; omega))).mono ?_; rintro e w3 ⟨rfl, hI, hK⟩; have HI2 := iC.mk hI; have HK2 := iC.mk (HK1.out.trans hK); clear hI hK z0 z1 z2 z3 z4 z5 z6 z7 z8 z9; obtain ⟨z0, z1, z2, z3, z4, z5, z6, z7, z8, z9, y0, y1, y2, y3, y4, y5, y6, y7, y8, y9⟩ := ten (iO HK2.out.1 HBK.out); clear y0 y1 y2 y3 y4 y5 y6 y7 y8 y9) | (go_at_call 50; refine (lH w1.heap.size w1.heap.size _ _ _ HI2.out HK2.out.1.size (by first | omega | (simp only [List.length_append, iQ, List.length_nil, jB]; omega))).mono ?_; rintro e w4 ⟨rfl, hI, hK⟩; have HI3 := iC.mk hI; have HK3 := iC.mk (HK2.out.trans hK); clear hI hK z0 z1 z2 z3 z4 z5 z6 z7 z8 z9; obtain ⟨z0, z1, z2, z3, z4, z5, z6, z7, z8, z9, y0, y1, y2, y3, y4, y5, y6, y7, y8, y9⟩ := ten (iO HK3.out.1 HBK.out); clear y0 y1 y2 y3 y4 y5 y6 y7 y8 y9) | (go_at_call 51; refine (uC w1.heap.size _ _ _ l3 w1 _ HI3.out HK3.out.1 (Kd.C_below H3.out HBW.out) (by first | omega | (simp only [List.length_append, iQ, List.length_nil, jB]; omega))).mono ?_; rintro e w5 ⟨rfl, hI, hK⟩; have HI4 := iC.mk hI; have HK4 := iC.mk (HK3.out.trans hK); clear hI hK z0 z1 z2 z3 z4 z5 z6 z7 z8 z9; obtain ⟨z0, z1, z2, z3, z4, z5, z6, z7, z8, z9, y0, y1, y2, y3, y4, y5, y6, y7, y8, y9⟩ := ten (iO HK4.out.1 HBK.out); clear y0 y1 y2 y3 y4 y5 y6 y7 y8 y9) | (go_at_call 55; refine (Tryd.Buffer_Len w1.heap.size w1.heap.size _ _ (HI4.out)).mono ?_; rintro e wl ⟨rfl, nl, rfl⟩; rw [Lib.byteCells_length, ← HLEN.out]))
    go_ret2
    exact ⟨_, rfl, Kd.R_nil _ _ _ _ _, by have hz := HBW.out; have hy := HK4.out.1; exact iF (iK hz hy) _⟩
  · rw [if_neg hbig]
    have hbigI : ¬ (60000 : Int) < (X.length : Int) := by omega
    clear hbig
    go_enter Tryd.func17, Tryd.ntmps17
    go_wp2_with (first | (go_at_call 19; refine (code_Sound.calls 2 a1 a2 A3 c3 l3 A4 c4 l4 a5 A6 c6 l6 a7 a8 A9 c9 l9 _ _ (Kd.C_below H3.out bel_) d3 (Kd.C_below H4.out bel_) d4 (Kd.C_below H6.out bel_) d6 (Kd.C_below H9.out bel_) d9 rfl).mono ?_; rintro e w1 ⟨rfl, hb1⟩; rw [HS.out]; have HBW := iC.mk (show Below w.heap.size w w1 from iK (iG (Below.refl _ _) _) hb1); have HBK := iC.mk (iO hb1 (iZ rfl)); clear hb1; have HI0 := iC.mk (Bf.fresh w1); have HK0 := iC.mk ((Kp.refl w1.heap.size w1.heap.size w1).alloc (Nat.le_refl _) (.cells #[.slice none 0 0, .int .i64 0, .int .i8 0] 91)); obtain ⟨z0, z1, z2, z3, z4, z5, z6, z7, z8, z9, y0, y1, y2, y3, y4, y5, y6, y7, y8, y9⟩ := ten (jM (o := (.cells #[.slice none 0 0, .int .i64 0, .int .i8 0] 91)) HBK.out); clear y0 y1 y2 y3 y4 y5 y6 y7 y8 y9) | (go_at_call 49; refine (oG w1.heap.size w1.heap.size _ _ _ HI0.out HK0.out.1.size (by first | omega | (simp only [List.length_append, iQ, List.length_nil, jB]; omega))).mono ?_; rintro e w2 ⟨rfl, hI, hK⟩; have HI1 := iC.mk hI; have HK1 := iC.mk (HK0.out.trans hK); clear hI hK z0 z1 z2 z3 z4 z5 z6 z7 z8 z9; obtain ⟨z0, z1, z2, z3, z4, z5, z6, z7, z8, z9, y0, y1, y2, y3, y4, y5, y6, y7, y8, y9⟩ := ten (iO HK1.out.1 HBK.out); clear y0 y1 y2 y3 y4 y5 y6 y7 y8 y9) | (go_at_call 50; refine (lH w1.heap.size w1.heap.size _ _ _ HI1.out HK1.out.1.size (by first | omega | (simp only [List.length_append, iQ, List.length_nil, jB]; omega))).mono ?_; rintro e w3 ⟨rfl, hI, hK⟩; have HI2 := iC.mk hI; have HK2 := iC.mk (HK1.out.trans hK); clear hI hK z0 z1 z2 z3 z4 z5 z6 z7 z8 z9; obtain ⟨z0, z1, z2, z3, z4, z5, z6, z7, z8, z9, y0, y1, y2, y3, y4, y5, y6, y7, y8, y9⟩ := ten (iO HK2.out.1 HBK.out); clear y0 y1 y2 y3 y4 y5 y6 y7 y8 y9) | (go_at_call 50; refine (lH w1.heap.size w1.heap.size _ _ _ HI2.out HK2.out.1.size (by first | omega | (simp only [List.length_append, iQ, List.length_nil, jB]; omega))).mono ?_; rintro e w4 ⟨rfl, hI, hK⟩; have HI3 := iC.mk hI; have HK3 := iC.mk (HK2.out.trans hK); clear hI hK z0 z1 z2 z3 z4 z5 z6 z7 z8 z9; obtain ⟨z0, z1, z2, z3, z4, z5, z6, z7, z8, z9, y0, y1, y2, y3, y4, y5, y6, y7, y8, y9⟩ := ten (iO HK3.out.1 HBK.out); clear y0 y1 y2 y3 y4 y5 y6 y7 y8 y9) | (go_at_call 51; refine (uC w1.heap.size _ _ _ l3 w1 _ HI3.out HK3.out.1 (Kd.C_below H3.out HBW.out) (by first | omega | (simp only [List.length_append, iQ, List.length_nil, jB]; omega))).mono ?_; rintro e w5 ⟨rfl, hI, hK⟩; have HI4 := iC.mk hI; have HK4 := iC.mk (HK3.out.trans hK); clear hI hK z0 z1 z2 z3 z4 z5 z6 z7 z8 z9; obtain ⟨z0, z1, z2, z3, z4, z5, z6, z7, z8, z9, y0, y1, y2, y3, y4, y5, y6, y7, y8, y9⟩ := ten (iO HK4.out.1 HBK.out); clear y0 y1 y2 y3 y4 y5 y6 y7 y8 y9) | (go_at_call 55; refine (Tryd.Buffer_Len w1.heap.size w1.heap.size _ _ (HI4.out)).mono ?_; rintro e wl ⟨rfl, nl, rfl⟩; rw [Lib.byteCells_length, ← HLEN.out]) | (go_at_call 56; refine (Tryd.Buffer_Bytes w1.heap.size w1.heap.size _ _ (HI4.out.drewN _)).mono ?_; rintro e wb ⟨v, rfl, hv, nb, rfl⟩; have HV := iC.mk hv; clear hv))
    go_ret2
    exact ⟨_, rfl, by rw [HX.out, j5_]; exact pU HV.out HBW.out.size, by have hz := HBW.out; have hy := HK4.out.1; exact iF (iK hz hy) _⟩
set_option maxHeartbeats 8000000 in
set_option maxRecDepth 20000 in
theorem XL (hs : jZ ⟨3, a1, a2, l3, l4, ⟨a5, l6⟩, a7, a8, l9⟩ = true) : Calls Tryd.prog 17 #[.agg #[.int .u8 3, .int .u32 a1, .int .u32 a2, .slice A3 l3.length c3, .slice A4 l4.length c4, .int .u32 a5, .slice A6 l6.length c6, .int .i64 a7, .int .i64 a8, .slice A9 l9.length c9]] w (oZ w (encR ⟨3, a1, a2, l3, l4, ⟨a5, l6⟩, a7, a8, l9⟩)) := by
  have H3 := iC.mk h3; have H4 := iC.mk h4; have H6 := iC.mk h6; have H9 := iC.mk h9
  clear h3 h4 h6 h9
  have HS := iC.mk hs
  unfold encR
  rw [if_pos HS.out]
  have hm3 := kX H3.out
  have hm6 := kX H6.out
  obtain ⟨X, hX⟩ : ∃ X : List UInt8, X = recE ⟨3, a1, a2, l3, l4, ⟨a5, l6⟩, a7, a8, l9⟩ := ⟨_, rfl⟩
  rw [← hX]
  have HX := iC.mk hX
  have HLEN := iC.mk (show X.length = _ from congrArg List.length (hX.trans (jb1 _ _ _ _ _ _ _ _ _)))
  clear hs hX
  by_cases hbig : 60000 < X.length
  · rw [if_pos hbig]
    have hbigI : (60000 : Int) < (X.length : Int) := by omega
    clear hbig
    go_enter Tryd.func17, Tryd.ntmps17
    go_wp2_with (first | (go_at_call 19; refine (code_Sound.calls 3 a1 a2 A3 c3 l3 A4 c4 l4 a5 A6 c6 l6 a7 a8 A9 c9 l9 _ _ (Kd.C_below H3.out bel_) d3 (Kd.C_below H4.out bel_) d4 (Kd.C_below H6.out bel_) d6 (Kd.C_below H9.out bel_) d9 rfl).mono ?_; rintro e w1 ⟨rfl, hb1⟩; rw [HS.out]; have HBW := iC.mk (show Below w.heap.size w w1 from iK (iG (Below.refl _ _) _) hb1); have HBK := iC.mk (iO hb1 (iZ rfl)); clear hb1; have HI0 := iC.mk (Bf.fresh w1); have HK0 := iC.mk ((Kp.refl w1.heap.size w1.heap.size w1).alloc (Nat.le_refl _) (.cells #[.slice none 0 0, .int .i64 0, .int .i8 0] 91)); obtain ⟨z0, z1, z2, z3, z4, z5, z6, z7, z8, z9, y0, y1, y2, y3, y4, y5, y6, y7, y8, y9⟩ := ten (jM (o := (.cells #[.slice none 0 0, .int .i64 0, .int .i8 0] 91)) HBK.out); clear y0 y1 y2 y3 y4 y5 y6 y7 y8 y9) | (go_at_call 49; refine (oG w1.heap.size w1.heap.size _ _ _ HI0.out HK0.out.1.size (by first | omega | (simp only [List.length_append, iQ, List.length_nil, jB]; omega))).mono ?_; rintro e w2 ⟨rfl, hI, hK⟩; have HI1 := iC.mk hI; have HK1 := iC.mk (HK0.out.trans hK); clear hI hK z0 z1 z2 z3 z4 z5 z6 z7 z8 z9; obtain ⟨z0, z1, z2, z3, z4, z5, z6, z7, z8, z9, y0, y1, y2, y3, y4, y5, y6, y7, y8, y9⟩ := ten (iO HK1.out.1 HBK.out); clear y0 y1 y2 y3 y4 y5 y6 y7 y8 y9) | (go_at_call 50; refine (lH w1.heap.size w1.heap.size _ _ _ HI1.out HK1.out.1.size (by first | omega | (simp only [List.length_append, iQ, List.length_nil, jB]; omega))).mono ?_; rintro e w3 ⟨rfl, hI, hK⟩; have HI2 := iC.mk hI; have HK2 := iC.mk (HK1.out.trans hK); clear hI hK z0 z1 z2 z3 z4 z5 z6 z7 z8 z9; obtain ⟨z0, z1, z2, z3, z4, z5, z6, z7, z8, z9, y0, y1, y2, y3, y4, y5, y6, y7, y8, y9⟩ := ten (iO HK2.out.1 HBK.out); clear y0 y1 y2 y3 y4 y5 y6 y7 y8 y9) | (go_at_call 55; refine (Tryd.Buffer_Len w1.heap.size w1.heap.size _ _ (HI2.out)).mono ?_; rintro e wl ⟨rfl, nl, rfl⟩; rw [Lib.byteCells_length, ← HLEN.out]))
    go_ret2
    exact ⟨_, rfl, Kd.R_nil _ _ _ _ _, by have hz := HBW.out; have hy := HK2.out.1; exact iF (iK hz hy) _⟩
  · rw [if_neg hbig]
    have hbigI : ¬ (60000 : Int) < (X.length : Int) := by omega
    clear hbig
    go_enter Tryd.func17, Tryd.ntmps17
    go_wp2_with (first | (go_at_call 19; refine (code_Sound.calls 3 a1 a2 A3 c3 l3 A4 c4 l4 a5 A6 c6 l6 a7 a8 A9 c9 l9 _ _ (Kd.C_below H3.out bel_) d3 (Kd.C_below H4.out bel_) d4 (Kd.C_below H6.out bel_) d6 (Kd.C_below H9.out bel_) d9 rfl).mono ?_; rintro e w1 ⟨rfl, hb1⟩; rw [HS.out]; have HBW := iC.mk (show Below w.heap.size w w1 from iK (iG (Below.refl _ _) _) hb1); have HBK := iC.mk (iO hb1 (iZ rfl)); clear hb1; have HI0 := iC.mk (Bf.fresh w1); have HK0 := iC.mk ((Kp.refl w1.heap.size w1.heap.size w1).alloc (Nat.le_refl _) (.cells #[.slice none 0 0, .int .i64 0, .int .i8 0] 91)); obtain ⟨z0, z1, z2, z3, z4, z5, z6, z7, z8, z9, y0, y1, y2, y3, y4, y5, y6, y7, y8, y9⟩ := ten (jM (o := (.cells #[.slice none 0 0, .int .i64 0, .int .i8 0] 91)) HBK.out); clear y0 y1 y2 y3 y4 y5 y6 y7 y8 y9) | (go_at_call 49; refine (oG w1.heap.size w1.heap.size _ _ _ HI0.out HK0.out.1.size (by first | omega | (simp only [List.length_append, iQ, List.length_nil, jB]; omega))).mono ?_; rintro e w2 ⟨rfl, hI, hK⟩; have HI1 := iC.mk hI; have HK1 := iC.mk (HK0.out.trans hK); clear hI hK z0 z1 z2 z3 z4 z5 z6 z7 z8 z9; obtain ⟨z0, z1, z2, z3, z4, z5, z6, z7, z8, z9, y0, y1, y2, y3, y4, y5, y6, y7, y8, y9⟩ := ten (iO HK1.out.1 HBK.out); clear y0 y1 y2 y3 y4 y5 y6 y7 y8 y9) | (go_at_call 50; refine (lH w1.heap.size w1.heap.size _ _ _ HI1.out HK1.out.1.size (by first | omega | (simp only [List.length_append, iQ, List.length_nil, jB]; omega))).mono ?_; rintro e w3 ⟨rfl, hI, hK⟩; have HI2 := iC.mk hI; have HK2 := iC.mk (HK1.out.trans hK); clear hI hK z0 z1 z2 z3 z4 z5 z6 z7 z8 z9; obtain ⟨z0, z1, z2, z3, z4, z5, z6, z7, z8, z9, y0, y1, y2, y3, y4, y5, y6, y7, y8, y9⟩ := ten (iO HK2.out.1 HBK.out); clear y0 y1 y2 y3 y4 y5 y6 y7 y8 y9) | (go_at_call 55; refine (Tryd.Buffer_Len w1.heap.size w1.heap.size _ _ (HI2.out)).mono ?_; rintro e wl ⟨rfl, nl, rfl⟩; rw [Lib.byteCells_length, ← HLEN.out]) | (go_at_call 56; refine (Tryd.Buffer_Bytes w1.heap.size w1.heap.size _ _ (HI2.out.drewN _)).mono ?_; rintro e wb ⟨v, rfl, hv, nb, rfl⟩; have HV := iC.mk hv; clear hv))
    go_ret2
    exact ⟨_, rfl, by rw [HX.out, jb1]; exact pU HV.out HBW.out.size, by have hz := HBW.out; have hy := HK2.out.1; exact iF (iK hz hy) _⟩
set_option maxHeartbeats 8000000 in
set_option maxRecDepth 20000 in
theorem XQ (hs : jZ ⟨4, a1, a2, l3, l4, ⟨a5, l6⟩, a7, a8, l9⟩ = true) : Calls Tryd.prog 17 #[.agg #[.int .u8 4, .int .u32 a1, .int .u32 a2, .slice A3 l3.length c3, .slice A4 l4.length c4, .int .u32 a5, .slice A6 l6.length c6, .int .i64 a7, .int .i64 a8, .slice A9 l9.length c9]] w (oZ w (encR ⟨4, a1, a2, l3, l4, ⟨a5, l6⟩, a7, a8, l9⟩)) := by
  have H3 := iC.mk h3; have H4 := iC.mk h4; have H6 := iC.mk h6; have H9 := iC.mk h9
  clear h3 h4 h6 h9
  have HS := iC.mk hs
  unfold encR
  rw [if_pos HS.out]
  have hm3 := kX H3.out
  have hm6 := kX H6.out
  obtain ⟨X, hX⟩ : ∃ X : List UInt8, X = recE ⟨4, a1, a2, l3, l4, ⟨a5, l6⟩, a7, a8, l9⟩ := ⟨_, rfl⟩
  rw [← hX]
  have HX := iC.mk hX
  have HLEN := iC.mk (show X.length = _ from congrArg List.length (hX.trans (ja1 _ _ _ _ _ _ _ _ _)))
  clear hs hX
  by_cases hbig : 60000 < X.length
  · rw [if_pos hbig]
    have hbigI : (60000 : Int) < (X.length : Int) := by omega
    clear hbig
    go_enter Tryd.func17, Tryd.ntmps17
    go_wp2_with (first | (go_at_call 19; refine (code_Sound.calls 4 a1 a2 A3 c3 l3 A4 c4 l4 a5 A6 c6 l6 a7 a8 A9 c9 l9 _ _ (Kd.C_below H3.out bel_) d3 (Kd.C_below H4.out bel_) d4 (Kd.C_below H6.out bel_) d6 (Kd.C_below H9.out bel_) d9 rfl).mono ?_; rintro e w1 ⟨rfl, hb1⟩; rw [HS.out]; have HBW := iC.mk (show Below w.heap.size w w1 from iK (iG (Below.refl _ _) _) hb1); have HBK := iC.mk (iO hb1 (iZ rfl)); clear hb1; have HI0 := iC.mk (Bf.fresh w1); have HK0 := iC.mk ((Kp.refl w1.heap.size w1.heap.size w1).alloc (Nat.le_refl _) (.cells #[.slice none 0 0, .int .i64 0, .int .i8 0] 91)); obtain ⟨z0, z1, z2, z3, z4, z5, z6, z7, z8, z9, y0, y1, y2, y3, y4, y5, y6, y7, y8, y9⟩ := ten (jM (o := (.cells #[.slice none 0 0, .int .i64 0, .int .i8 0] 91)) HBK.out); clear y0 y1 y2 y3 y4 y5 y6 y7 y8 y9) | (go_at_call 49; refine (oG w1.heap.size w1.heap.size _ _ _ HI0.out HK0.out.1.size (by first | omega | (simp only [List.length_append, iQ, List.length_nil, jB]; omega))).mono ?_; rintro e w2 ⟨rfl, hI, hK⟩; have HI1 := iC.mk hI; have HK1 := iC.mk (HK0.out.trans hK); clear hI hK z0 z1 z2 z3 z4 z5 z6 z7 z8 z9; obtain ⟨z0, z1, z2, z3, z4, z5, z6, z7, z8, z9, y0, y1, y2, y3, y4, y5, y6, y7, y8, y9⟩ := ten (iO HK1.out.1 HBK.out); clear y0 y1 y2 y3 y4 y5 y6 y7 y8 y9) | (go_at_call 50; refine (lH w1.heap.size w1.heap.size _ _ _ HI1.out HK1.out.1.size (by first | omega | (simp only [List.length_append, iQ, List.length_nil, jB]; omega))).mono ?_; rintro e w3 ⟨rfl, hI, hK⟩; have HI2 := iC.mk hI; have HK2 := iC.mk (HK1.out.trans hK); clear hI hK z0 z1 z2 z3 z4 z5 z6 z7 z8 z9; obtain ⟨z0, z1, z2, z3, z4, z5, z6, z7, z8, z9, y0, y1, y2, y3, y4, y5, y6, y7, y8, y9⟩ := ten (iO HK2.out.1 HBK.out); clear y0 y1 y2 y3 y4 y5 y6 y7 y8 y9) | (go_at_call 55; refine (Tryd.Buffer_Len w1.heap.size w1.heap.size _ _ (HI2.out)).mono ?_; rintro e wl ⟨rfl, nl, rfl⟩; rw [Lib.byteCells_length, ← HLEN.out]))
    go_ret2
    exact ⟨_, rfl, Kd.R_nil _ _ _ _ _, by have hz := HBW.out; have hy := HK2.out.1; exact iF (iK hz hy) _⟩
  · rw [if_neg hbig]
    have hbigI : ¬ (60000 : Int) < (X.length : Int) := by omega
    clear hbig
    go_enter Tryd.func17, Tryd.ntmps17
    go_wp2_with (first | (go_at_call 19; refine (code_Sound.calls 4 a1 a2 A3 c3 l3 A4 c4 l4 a5 A6 c6 l6 a7 a8 A9 c9 l9 _ _ (Kd.C_below H3.out bel_) d3 (Kd.C_below H4.out bel_) d4 (Kd.C_below H6.out bel_) d6 (Kd.C_below H9.out bel_) d9 rfl).mono ?_; rintro e w1 ⟨rfl, hb1⟩; rw [HS.out]; have HBW := iC.mk (show Below w.heap.size w w1 from iK (iG (Below.refl _ _) _) hb1); have HBK := iC.mk (iO hb1 (iZ rfl)); clear hb1; have HI0 := iC.mk (Bf.fresh w1); have HK0 := iC.mk ((Kp.refl w1.heap.size w1.heap.size w1).alloc (Nat.le_refl _) (.cells #[.slice none 0 0, .int .i64 0, .int .i8 0] 91)); obtain ⟨z0, z1, z2, z3, z4, z5, z6, z7, z8, z9, y0, y1, y2, y3, y4, y5, y6, y7, y8, y9⟩ := ten (jM (o := (.cells #[.slice none 0 0, .int .i64 0, .int .i8 0] 91)) HBK.out); clear y0 y1 y2 y3 y4 y5 y6 y7 y8 y9) | (go_at_call 49; refine (oG w1.heap.size w1.heap.size _ _ _ HI0.out HK0.out.1.size (by first | omega | (simp only [List.length_append, iQ, List.length_nil, jB]; omega))).mono ?_; rintro e w2 ⟨rfl, hI, hK⟩; have HI1 := iC.mk hI; have HK1 := iC.mk (HK0.out.trans hK); clear hI hK z0 z1 z2 z3 z4 z5 z6 z7 z8 z9; obtain ⟨z0, z1, z2, z3, z4, z5, z6, z7, z8, z9, y0, y1, y2, y3, y4, y5, y6, y7, y8, y9⟩ := ten (iO HK1.out.1 HBK.out); clear y0 y1 y2 y3 y4 y5 y6 y7 y8 y9) | (go_at_call 50; refine (lH w1.heap.size w1.heap.size _ _ _ HI1.out HK1.out.1.size (by first | omega | (simp only [List.length_append, iQ, List.length_nil, jB]; omega))).mono ?_; rintro e w3 ⟨rfl, hI, hK⟩; have HI2 := iC.mk hI; have HK2 := iC.mk (HK1.out.trans hK); clear hI hK z0 z1 z2 z3 z4 z5 z6 z7 z8 z9; obtain ⟨z0, z1, z2, z3, z4, z5, z6, z7, z8, z9, y0, y1, y2, y3, y4, y5, y6, y7, y8, y9⟩ := ten (iO HK2.out.1 HBK.out); clear y0 y1 y2 y3 y4 y5 y6 y7 y8 y9) | (go_at_call 55; refine (Tryd.Buffer_Len w1.heap.size w1.heap.size _ _ (HI2.out)).mono ?_; rintro e wl ⟨rfl, nl, rfl⟩; rw [Lib.byteCells_length, ← HLEN.out]) | (go_at_call 56; refine (Tryd.Buffer_Bytes w1.heap.size w1.heap.size _ _ (HI2.out.drewN _)).mono ?_; rintro e wb ⟨v, rfl, hv, nb, rfl⟩; have HV := iC.mk hv; clear hv))
    go_ret2
    exact ⟨_, rfl, by rw [HX.out, ja1]; exact pU HV.out HBW.out.size, by have hz := HBW.out; have hy := HK2.out.1; exact iF (iK hz hy) _⟩
set_option maxHeartbeats 8000000 in
set_option maxRecDepth 20000 in
theorem WF (hs : jZ ⟨5, a1, a2, l3, l4, ⟨a5, l6⟩, a7, a8, l9⟩ = true) : Calls Tryd.prog 17 #[.agg #[.int .u8 5, .int .u32 a1, .int .u32 a2, .slice A3 l3.length c3, .slice A4 l4.length c4, .int .u32 a5, .slice A6 l6.length c6, .int .i64 a7, .int .i64 a8, .slice A9 l9.length c9]] w (oZ w (encR ⟨5, a1, a2, l3, l4, ⟨a5, l6⟩, a7, a8, l9⟩)) := by
  have H3 := iC.mk h3; have H4 := iC.mk h4; have H6 := iC.mk h6; have H9 := iC.mk h9
  clear h3 h4 h6 h9
  have HS := iC.mk hs
  unfold encR
  rw [if_pos HS.out]
  have hm3 := kX H3.out
  have hm6 := kX H6.out
  obtain ⟨X, hX⟩ : ∃ X : List UInt8, X = recE ⟨5, a1, a2, l3, l4, ⟨a5, l6⟩, a7, a8, l9⟩ := ⟨_, rfl⟩
  rw [← hX]
  have HX := iC.mk hX
  have HLEN := iC.mk (show X.length = _ from congrArg List.length (hX.trans (jb2 _ _ _ _ _ _ _ _ _)))
  clear hs hX
  by_cases hbig : 60000 < X.length
  · rw [if_pos hbig]
    have hbigI : (60000 : Int) < (X.length : Int) := by omega
    clear hbig
    go_enter Tryd.func17, Tryd.ntmps17
    go_wp2_with (first | (go_at_call 19; refine (code_Sound.calls 5 a1 a2 A3 c3 l3 A4 c4 l4 a5 A6 c6 l6 a7 a8 A9 c9 l9 _ _ (Kd.C_below H3.out bel_) d3 (Kd.C_below H4.out bel_) d4 (Kd.C_below H6.out bel_) d6 (Kd.C_below H9.out bel_) d9 rfl).mono ?_; rintro e w1 ⟨rfl, hb1⟩; rw [HS.out]; have HBW := iC.mk (show Below w.heap.size w w1 from iK (iG (Below.refl _ _) _) hb1); have HBK := iC.mk (iO hb1 (iZ rfl)); clear hb1; have HI0 := iC.mk (Bf.fresh w1); have HK0 := iC.mk ((Kp.refl w1.heap.size w1.heap.size w1).alloc (Nat.le_refl _) (.cells #[.slice none 0 0, .int .i64 0, .int .i8 0] 91)); obtain ⟨z0, z1, z2, z3, z4, z5, z6, z7, z8, z9, y0, y1, y2, y3, y4, y5, y6, y7, y8, y9⟩ := ten (jM (o := (.cells #[.slice none 0 0, .int .i64 0, .int .i8 0] 91)) HBK.out); clear y0 y1 y2 y3 y4 y5 y6 y7 y8 y9) | (go_at_call 49; refine (oG w1.heap.size w1.heap.size _ _ _ HI0.out HK0.out.1.size (by first | omega | (simp only [List.length_append, iQ, List.length_nil, jB]; omega))).mono ?_; rintro e w2 ⟨rfl, hI, hK⟩; have HI1 := iC.mk hI; have HK1 := iC.mk (HK0.out.trans hK); clear hI hK z0 z1 z2 z3 z4 z5 z6 z7 z8 z9; obtain ⟨z0, z1, z2, z3, z4, z5, z6, z7, z8, z9, y0, y1, y2, y3, y4, y5, y6, y7, y8, y9⟩ := ten (iO HK1.out.1 HBK.out); clear y0 y1 y2 y3 y4 y5 y6 y7 y8 y9) | (go_at_call 50; refine (lH w1.heap.size w1.heap.size _ _ _ HI1.out HK1.out.1.size (by first | omega | (simp only [List.length_append, iQ, List.length_nil, jB]; omega))).mono ?_; rintro e w3 ⟨rfl, hI, hK⟩; have HI2 := iC.mk hI; have HK2 := iC.mk (HK1.out.trans hK); clear hI hK z0 z1 z2 z3 z4 z5 z6 z7 z8 z9; obtain ⟨z0, z1, z2, z3, z4, z5, z6, z7, z8, z9, y0, y1, y2, y3, y4, y5, y6, y7, y8, y9⟩ := ten (iO HK2.out.1 HBK.out); clear y0 y1 y2 y3 y4 y5 y6 y7 y8 y9) | (go_at_call 55; refine (Tryd.Buffer_Len w1.heap.size w1.heap.size _ _ (HI2.out)).mono ?_; rintro e wl ⟨rfl, nl, rfl⟩; rw [Lib.byteCells_length, ← HLEN.out]))
    go_ret2
    exact ⟨_, rfl, Kd.R_nil _ _ _ _ _, by have hz := HBW.out; have hy := HK2.out.1; exact iF (iK hz hy) _⟩
  · rw [if_neg hbig]
    have hbigI : ¬ (60000 : Int) < (X.length : Int) := by omega
    clear hbig
    go_enter Tryd.func17, Tryd.ntmps17
    go_wp2_with (first | (go_at_call 19; refine (code_Sound.calls 5 a1 a2 A3 c3 l3 A4 c4 l4 a5 A6 c6 l6 a7 a8 A9 c9 l9 _ _ (Kd.C_below H3.out bel_) d3 (Kd.C_below H4.out bel_) d4 (Kd.C_below H6.out bel_) d6 (Kd.C_below H9.out bel_) d9 rfl).mono ?_; rintro e w1 ⟨rfl, hb1⟩; rw [HS.out]; have HBW := iC.mk (show Below w.heap.size w w1 from iK (iG (Below.refl _ _) _) hb1); have HBK := iC.mk (iO hb1 (iZ rfl)); clear hb1; have HI0 := iC.mk (Bf.fresh w1); have HK0 := iC.mk ((Kp.refl w1.heap.size w1.heap.size w1).alloc (Nat.le_refl _) (.cells #[.slice none 0 0, .int .i64 0, .int .i8 0] 91)); obtain ⟨z0, z1, z2, z3, z4, z5, z6, z7, z8, z9, y0, y1, y2, y3, y4, y5, y6, y7, y8, y9⟩ := ten (jM (o := (.cells #[.slice none 0 0, .int .i64 0, .int .i8 0] 91)) HBK.out); clear y0 y1 y2 y3 y4 y5 y6 y7 y8 y9) | (go_at_call 49; refine (oG w1.heap.size w1.heap.size _ _ _ HI0.out HK0.out.1.size (by first | omega | (simp only [List.length_append, iQ, List.length_nil, jB]; omega))).mono ?_; rintro e w2 ⟨rfl, hI, hK⟩; have HI1 := iC.mk hI; have HK1 := iC.mk (HK0.out.trans hK); clear hI hK z0 z1 z2 z3 z4 z5 z6 z7 z8 z9; obtain ⟨z0, z1, z2, z3, z4, z5, z6, z7, z8, z9, y0, y1, y2, y3, y4, y5, y6, y7, y8, y9⟩ := ten (iO HK1.out.1 HBK.out); clear y0 y1 y2 y3 y4 y5 y6 y7 y8 y9) | (go_at_call 50; refine (lH w1.heap.size w1.heap.size _ _ _ HI1.out HK1.out.1.size (by first | omega | (simp only [List.length_append, iQ, List.length_nil, jB]; omega))).mono ?_; rintro e w3 ⟨rfl, hI, hK⟩; have HI2 := iC.mk hI; have HK2 := iC.mk (HK1.out.trans hK); clear hI hK z0 z1 z2 z3 z4 z5 z6 z7 z8 z9; obtain ⟨z0, z1, z2, z3, z4, z5, z6, z7, z8, z9, y0, y1, y2, y3, y4, y5, y6, y7, y8, y9⟩ := ten (iO HK2.out.1 HBK.out); clear y0 y1 y2 y3 y4 y5 y6 y7 y8 y9) | (go_at_call 55; refine (Tryd.Buffer_Len w1.heap.size w1.heap.size _ _ (HI2.out)).mono ?_; rintro e wl ⟨rfl, nl, rfl⟩; rw [Lib.byteCells_length, ← HLEN.out]) | (go_at_call 56; refine (Tryd.Buffer_Bytes w1.heap.size w1.heap.size _ _ (HI2.out.drewN _)).mono ?_; rintro e wb ⟨v, rfl, hv, nb, rfl⟩; have HV := iC.mk hv; clear hv))
    go_ret2
    exact ⟨_, rfl, by rw [HX.out, jb2]; exact pU HV.out HBW.out.size, by have hz := HBW.out; have hy := HK2.out.1; exact iF (iK hz hy) _⟩
set_option maxHeartbeats 8000000 in
set_option maxRecDepth 20000 in
theorem XP (hs : jZ ⟨7, a1, a2, l3, l4, ⟨a5, l6⟩, a7, a8, l9⟩ = true) : Calls Tryd.prog 17 #[.agg #[.int .u8 7, .int .u32 a1, .int .u32 a2, .slice A3 l3.length c3, .slice A4 l4.length c4, .int .u32 a5, .slice A6 l6.length c6, .int .i64 a7, .int .i64 a8, .slice A9 l9.length c9]] w (oZ w (encR ⟨7, a1, a2, l3, l4, ⟨a5, l6⟩, a7, a8, l9⟩)) := by
  have H3 := iC.mk h3; have H4 := iC.mk h4; have H6 := iC.mk h6; have H9 := iC.mk h9
  clear h3 h4 h6 h9
  have HS := iC.mk hs
  have q9 : (jU l9).length ≤ 25040004 := by
    have h := HS.out
    rw [Y5, Bool.and_eq_true, Bool.and_eq_true, Bool.and_eq_true, Bool.and_eq_true, Bool.and_eq_true, Bool.and_eq_true] at h
    exact xP _ h.1.1.1.1.1.1 (by have := of_decide_eq_true h.1.1.1.1.1.2; omega)
  unfold encR
  rw [if_pos HS.out]
  have hm3 := kX H3.out
  have hm6 := kX H6.out
  obtain ⟨X, hX⟩ : ∃ X : List UInt8, X = recE ⟨7, a1, a2, l3, l4, ⟨a5, l6⟩, a7, a8, l9⟩ := ⟨_, rfl⟩
  rw [← hX]
  have HX := iC.mk hX
  have HLEN := iC.mk (show X.length = _ from congrArg List.length (hX.trans (j07 _ _ _ _ _ _ _ _ _)))
  clear hs hX
  by_cases hbig : 60000 < X.length
  · rw [if_pos hbig]
    have hbigI : (60000 : Int) < (X.length : Int) := by omega
    clear hbig
    go_enter Tryd.func17, Tryd.ntmps17
    go_wp2_with (first | (go_at_call 19; refine (code_Sound.calls 7 a1 a2 A3 c3 l3 A4 c4 l4 a5 A6 c6 l6 a7 a8 A9 c9 l9 _ _ (Kd.C_below H3.out bel_) d3 (Kd.C_below H4.out bel_) d4 (Kd.C_below H6.out bel_) d6 (Kd.C_below H9.out bel_) d9 rfl).mono ?_; rintro e w1 ⟨rfl, hb1⟩; rw [HS.out]; have HBW := iC.mk (show Below w.heap.size w w1 from iK (iG (Below.refl _ _) _) hb1); have HBK := iC.mk (iO hb1 (iZ rfl)); clear hb1; have HI0 := iC.mk (Bf.fresh w1); have HK0 := iC.mk ((Kp.refl w1.heap.size w1.heap.size w1).alloc (Nat.le_refl _) (.cells #[.slice none 0 0, .int .i64 0, .int .i8 0] 91)); obtain ⟨z0, z1, z2, z3, z4, z5, z6, z7, z8, z9, y0, y1, y2, y3, y4, y5, y6, y7, y8, y9⟩ := ten (jM (o := (.cells #[.slice none 0 0, .int .i64 0, .int .i8 0] 91)) HBK.out); clear y0 y1 y2 y3 y4 y5 y6 y7 y8 y9) | (go_at_call 49; refine (oG w1.heap.size w1.heap.size _ _ _ HI0.out HK0.out.1.size (by first | omega | (simp only [List.length_append, iQ, List.length_nil, jB]; omega))).mono ?_; rintro e w2 ⟨rfl, hI, hK⟩; have HI1 := iC.mk hI; have HK1 := iC.mk (HK0.out.trans hK); clear hI hK z0 z1 z2 z3 z4 z5 z6 z7 z8 z9; obtain ⟨z0, z1, z2, z3, z4, z5, z6, z7, z8, z9, y0, y1, y2, y3, y4, y5, y6, y7, y8, y9⟩ := ten (iO HK1.out.1 HBK.out); clear y0 y1 y2 y3 y4 y5 y6 y7 y8 y9) | (go_at_call 50; refine (lH w1.heap.size w1.heap.size _ _ _ HI1.out HK1.out.1.size (by first | omega | (simp only [List.length_append, iQ, List.length_nil, jB]; omega))).mono ?_; rintro e w3 ⟨rfl, hI, hK⟩; have HI2 := iC.mk hI; have HK2 := iC.mk (HK1.out.trans hK); clear hI hK z0 z1 z2 z3 z4 z5 z6 z7 z8 z9; obtain ⟨z0, z1, z2, z3, z4, z5, z6, z7, z8, z9, y0, y1, y2, y3, y4, y5, y6, y7, y8, y9⟩ := ten (iO HK2.out.1 HBK.out); clear y0 y1 y2 y3 y4 y5 y6 y7 y8 y9) | (go_at_call 53; refine (nN w1.heap.size w1.heap.size _ _ _ HI2.out HK2.out.1.size (by first | omega | (simp only [List.length_append, iQ, List.length_nil, jB]; omega))).mono ?_; rintro e w4 ⟨rfl, hI, hK⟩; have HI3 := iC.mk hI; have HK3 := iC.mk (HK2.out.trans hK); clear hI hK z0 z1 z2 z3 z4 z5 z6 z7 z8 z9; obtain ⟨z0, z1, z2, z3, z4, z5, z6, z7, z8, z9, y0, y1, y2, y3, y4, y5, y6, y7, y8, y9⟩ := ten (iO HK3.out.1 HBK.out); clear y0 y1 y2 y3 y4 y5 y6 y7 y8 y9) | (go_at_call 53; refine (nN w1.heap.size w1.heap.size _ _ _ HI3.out HK3.out.1.size (by first | omega | (simp only [List.length_append, iQ, List.length_nil, jB]; omega))).mono ?_; rintro e w5 ⟨rfl, hI, hK⟩; have HI4 := iC.mk hI; have HK4 := iC.mk (HK3.out.trans hK); clear hI hK z0 z1 z2 z3 z4 z5 z6 z7 z8 z9; obtain ⟨z0, z1, z2, z3, z4, z5, z6, z7, z8, z9, y0, y1, y2, y3, y4, y5, y6, y7, y8, y9⟩ := ten (iO HK4.out.1 HBK.out); clear y0 y1 y2 y3 y4 y5 y6 y7 y8 y9) | (go_at_call 54; refine (yC w1.heap.size _ _ _ l9 w1 _ HI4.out HK4.out.1 (Kd.C_below H9.out HBW.out) (by first | omega | (simp only [List.length_append, iQ, List.length_nil, jB]; omega))).mono ?_; rintro e w6 ⟨rfl, hI, hK⟩; have HI5 := iC.mk hI; have HK5 := iC.mk (HK4.out.trans hK); clear hI hK z0 z1 z2 z3 z4 z5 z6 z7 z8 z9; obtain ⟨z0, z1, z2, z3, z4, z5, z6, z7, z8, z9, y0, y1, y2, y3, y4, y5, y6, y7, y8, y9⟩ := ten (iO HK5.out.1 HBK.out); clear y0 y1 y2 y3 y4 y5 y6 y7 y8 y9) | (go_at_call 55; refine (Tryd.Buffer_Len w1.heap.size w1.heap.size _ _ (HI5.out)).mono ?_; rintro e wl ⟨rfl, nl, rfl⟩; rw [Lib.byteCells_length, ← HLEN.out]))
    go_ret2
    exact ⟨_, rfl, Kd.R_nil _ _ _ _ _, by have hz := HBW.out; have hy := HK5.out.1; exact iF (iK hz hy) _⟩
  · rw [if_neg hbig]
    have hbigI : ¬ (60000 : Int) < (X.length : Int) := by omega
    clear hbig
    go_enter Tryd.func17, Tryd.ntmps17
    go_wp2_with (first | (go_at_call 19; refine (code_Sound.calls 7 a1 a2 A3 c3 l3 A4 c4 l4 a5 A6 c6 l6 a7 a8 A9 c9 l9 _ _ (Kd.C_below H3.out bel_) d3 (Kd.C_below H4.out bel_) d4 (Kd.C_below H6.out bel_) d6 (Kd.C_below H9.out bel_) d9 rfl).mono ?_; rintro e w1 ⟨rfl, hb1⟩; rw [HS.out]; have HBW := iC.mk (show Below w.heap.size w w1 from iK (iG (Below.refl _ _) _) hb1); have HBK := iC.mk (iO hb1 (iZ rfl)); clear hb1; have HI0 := iC.mk (Bf.fresh w1); have HK0 := iC.mk ((Kp.refl w1.heap.size w1.heap.size w1).alloc (Nat.le_refl _) (.cells #[.slice none 0 0, .int .i64 0, .int .i8 0] 91)); obtain ⟨z0, z1, z2, z3, z4, z5, z6, z7, z8, z9, y0, y1, y2, y3, y4, y5, y6, y7, y8, y9⟩ := ten (jM (o := (.cells #[.slice none 0 0, .int .i64 0, .int .i8 0] 91)) HBK.out); clear y0 y1 y2 y3 y4 y5 y6 y7 y8 y9) | (go_at_call 49; refine (oG w1.heap.size w1.heap.size _ _ _ HI0.out HK0.out.1.size (by first | omega | (simp only [List.length_append, iQ, List.length_nil, jB]; omega))).mono ?_; rintro e w2 ⟨rfl, hI, hK⟩; have HI1 := iC.mk hI; have HK1 := iC.mk (HK0.out.trans hK); clear hI hK z0 z1 z2 z3 z4 z5 z6 z7 z8 z9; obtain ⟨z0, z1, z2, z3, z4, z5, z6, z7, z8, z9, y0, y1, y2, y3, y4, y5, y6, y7, y8, y9⟩ := ten (iO HK1.out.1 HBK.out); clear y0 y1 y2 y3 y4 y5 y6 y7 y8 y9) | (go_at_call 50; refine (lH w1.heap.size w1.heap.size _ _ _ HI1.out HK1.out.1.size (by first | omega | (simp only [List.length_append, iQ, List.length_nil, jB]; omega))).mono ?_; rintro e w3 ⟨rfl, hI, hK⟩; have HI2 := iC.mk hI; have HK2 := iC.mk (HK1.out.trans hK); clear hI hK z0 z1 z2 z3 z4 z5 z6 z7 z8 z9; obtain ⟨z0, z1, z2, z3, z4, z5, z6, z7, z8, z9, y0, y1, y2, y3, y4, y5, y6, y7, y8, y9⟩ := ten (iO HK2.out.1 HBK.out); clear y0 y1 y2 y3 y4 y5 y6 y7 y8 y9) | (go_at_call 53; refine (nN w1.heap.size w1.heap.size _ _ _ HI2.out HK2.out.1.size (by first | omega | (simp only [List.length_append, iQ, List.length_nil, jB]; omega))).mono ?_; rintro e w4 ⟨rfl, hI, hK⟩; have HI3 := iC.mk hI; have HK3 := iC.mk (HK2.out.trans hK); clear hI hK z0 z1 z2 z3 z4 z5 z6 z7 z8 z9; obtain ⟨z0, z1, z2, z3, z4, z5, z6, z7, z8, z9, y0, y1, y2, y3, y4, y5, y6, y7, y8, y9⟩ := ten (iO HK3.out.1 HBK.out); clear y0 y1 y2 y3 y4 y5 y6 y7 y8 y9) | (go_at_call 53; refine (nN w1.heap.size w1.heap.size _ _ _ HI3.out HK3.out.1.size (by first | omega | (simp only [List.length_append, iQ, List.length_nil, jB]; omega))).mono ?_; rintro e w5 ⟨rfl, hI, hK⟩; have HI4 := iC.mk hI; have HK4 := iC.mk (HK3.out.trans hK); clear hI hK z0 z1 z2 z3 z4 z5 z6 z7 z8 z9; obtain ⟨z0, z1, z2, z3, z4, z5, z6, z7, z8, z9, y0, y1, y2, y3, y4, y5, y6, y7, y8, y9⟩ := ten (iO HK4.out.1 HBK.out); clear y0 y1 y2 y3 y4 y5 y6 y7 y8 y9) | (go_at_call 54; refine (yC w1.heap.size _ _ _ l9 w1 _ HI4.out HK4.out.1 (Kd.C_below H9.out HBW.out) (by first | omega | (simp only [List.length_append, iQ, List.length_nil, jB]; omega))).mono ?_; rintro e w6 ⟨rfl, hI, hK⟩; have HI5 := iC.mk hI; have HK5 := iC.mk (HK4.out.trans hK); clear hI hK z0 z1 z2 z3 z4 z5 z6 z7 z8 z9; obtain ⟨z0, z1, z2, z3, z4, z5, z6, z7, z8, z9, y0, y1, y2, y3, y4, y5, y6, y7, y8, y9⟩ := ten (iO HK5.out.1 HBK.out); clear y0 y1 y2 y3 y4 y5 y6 y7 y8 y9) | (go_at_call 55; refine (Tryd.Buffer_Len w1.heap.size w1.heap.size _ _ (HI5.out)).mono ?_; rintro e wl ⟨rfl, nl, rfl⟩; rw [Lib.byteCells_length, ← HLEN.out]) | (go_at_call 56; refine (Tryd.Buffer_Bytes w1.heap.size w1.heap.size _ _ (HI5.out.drewN _)).mono ?_; rintro e wb ⟨v, rfl, hv, nb, rfl⟩; have HV := iC.mk hv; clear hv))
    go_ret2
    exact ⟨_, rfl, by rw [HX.out, j07]; exact pU HV.out HBW.out.size, by have hz := HBW.out; have hy := HK5.out.1; exact iF (iK hz hy) _⟩
set_option maxHeartbeats 8000000 in
set_option maxRecDepth 20000 in
theorem VZ (hs : jZ ⟨6, a1, a2, l3, l4, ⟨a5, l6⟩, a7, a8, l9⟩ = true) : Calls Tryd.prog 17 #[.agg #[.int .u8 6, .int .u32 a1, .int .u32 a2, .slice A3 l3.length c3, .slice A4 l4.length c4, .int .u32 a5, .slice A6 l6.length c6, .int .i64 a7, .int .i64 a8, .slice A9 l9.length c9]] w (oZ w (encR ⟨6, a1, a2, l3, l4, ⟨a5, l6⟩, a7, a8, l9⟩)) := by
  have H3 := iC.mk h3; have H4 := iC.mk h4; have H6 := iC.mk h6; have H9 := iC.mk h9
  clear h3 h4 h6 h9
  have HS := iC.mk hs
  have q6 : l6.length ≤ 40 := by
    have h := HS.out
    rw [Y4, Bool.and_eq_true, Bool.and_eq_true, Bool.and_eq_true] at h
    have := of_decide_eq_true h.1.1.2
    omega
  unfold encR
  rw [if_pos HS.out]
  have hm3 := kX H3.out
  have hm6 := kX H6.out
  obtain ⟨X, hX⟩ : ∃ X : List UInt8, X = recE ⟨6, a1, a2, l3, l4, ⟨a5, l6⟩, a7, a8, l9⟩ := ⟨_, rfl⟩
  rw [← hX]
  have HX := iC.mk hX
  have HLEN := iC.mk (show X.length = _ from congrArg List.length (hX.trans (jb_ _ _ _ _ _ _ _ _ _)))
  clear hs hX
  by_cases hbig : 60000 < X.length
  · rw [if_pos hbig]
    have hbigI : (60000 : Int) < (X.length : Int) := by omega
    clear hbig
    go_enter Tryd.func17, Tryd.ntmps17
    go_wp2_with (first | (go_at_call 19; refine (code_Sound.calls 6 a1 a2 A3 c3 l3 A4 c4 l4 a5 A6 c6 l6 a7 a8 A9 c9 l9 _ _ (Kd.C_below H3.out bel_) d3 (Kd.C_below H4.out bel_) d4 (Kd.C_below H6.out bel_) d6 (Kd.C_below H9.out bel_) d9 rfl).mono ?_; rintro e w1 ⟨rfl, hb1⟩; rw [HS.out]; have HBW := iC.mk (show Below w.heap.size w w1 from iK (iG (Below.refl _ _) _) hb1); have HBK := iC.mk (iO hb1 (iZ rfl)); clear hb1; have HI0 := iC.mk (Bf.fresh w1); have HK0 := iC.mk ((Kp.refl w1.heap.size w1.heap.size w1).alloc (Nat.le_refl _) (.cells #[.slice none 0 0, .int .i64 0, .int .i8 0] 91)); obtain ⟨z0, z1, z2, z3, z4, z5, z6, z7, z8, z9, y0, y1, y2, y3, y4, y5, y6, y7, y8, y9⟩ := ten (jM (o := (.cells #[.slice none 0 0, .int .i64 0, .int .i8 0] 91)) HBK.out); clear y0 y1 y2 y3 y4 y5 y6 y7 y8 y9) | (go_at_call 49; refine (oG w1.heap.size w1.heap.size _ _ _ HI0.out HK0.out.1.size (by first | omega | (simp only [List.length_append, iQ, List.length_nil, jB]; omega))).mono ?_; rintro e w2 ⟨rfl, hI, hK⟩; have HI1 := iC.mk hI; have HK1 := iC.mk (HK0.out.trans hK); clear hI hK z0 z1 z2 z3 z4 z5 z6 z7 z8 z9; obtain ⟨z0, z1, z2, z3, z4, z5, z6, z7, z8, z9, y0, y1, y2, y3, y4, y5, y6, y7, y8, y9⟩ := ten (iO HK1.out.1 HBK.out); clear y0 y1 y2 y3 y4 y5 y6 y7 y8 y9) | (go_at_call 50; refine (lH w1.heap.size w1.heap.size _ _ _ HI1.out HK1.out.1.size (by first | omega | (simp only [List.length_append, iQ, List.length_nil, jB]; omega))).mono ?_; rintro e w3 ⟨rfl, hI, hK⟩; have HI2 := iC.mk hI; have HK2 := iC.mk (HK1.out.trans hK); clear hI hK z0 z1 z2 z3 z4 z5 z6 z7 z8 z9; obtain ⟨z0, z1, z2, z3, z4, z5, z6, z7, z8, z9, y0, y1, y2, y3, y4, y5, y6, y7, y8, y9⟩ := ten (iO HK2.out.1 HBK.out); clear y0 y1 y2 y3 y4 y5 y6 y7 y8 y9) | (go_at_call 50; refine (lH w1.heap.size w1.heap.size _ _ _ HI2.out HK2.out.1.size (by first | omega | (simp only [List.length_append, iQ, List.length_nil, jB]; omega))).mono ?_; rintro e w4 ⟨rfl, hI, hK⟩; have HI3 := iC.mk hI; have HK3 := iC.mk (HK2.out.trans hK); clear hI hK z0 z1 z2 z3 z4 z5 z6 z7 z8 z9; obtain ⟨z0, z1, z2, z3, z4, z5, z6, z7, z8, z9, y0, y1, y2, y3, y4, y5, y6, y7, y8, y9⟩ := ten (iO HK3.out.1 HBK.out); clear y0 y1 y2 y3 y4 y5 y6 y7 y8 y9) | (go_at_call 53; refine (pM w1.heap.size w1.heap.size _ _ _ HI3.out HK3.out.1.size (by first | omega | (simp only [List.length_append, iQ, List.length_nil, jB]; omega))).mono ?_; rintro e w5 ⟨rfl, hI, hK⟩; have HI4 := iC.mk hI; have HK4 := iC.mk (HK3.out.trans hK); clear hI hK z0 z1 z2 z3 z4 z5 z6 z7 z8 z9; obtain ⟨z0, z1, z2, z3, z4, z5, z6, z7, z8, z9, y0, y1, y2, y3, y4, y5, y6, y7, y8, y9⟩ := ten (iO HK4.out.1 HBK.out); clear y0 y1 y2 y3 y4 y5 y6 y7 y8 y9))
    clear z0 z1 z2 z3 z4 z5 z6 z7 z8 z9
    go_loopw [59] (fun i wr => ∃ k : Nat, k ≤ l6.length ∧ i = .int .i64 k ∧ iC (Bf w1.heap.size w1.heap.size ([] ++ layB 6 1 ++ layB a1 4 ++ layB a5 4 ++ layB l6.length 1 ++ (l6.take k).flatMap oC) wr) ∧ iC (Kp w1.heap.size w1.heap.size w1 wr)) (fun i _ => l6.length - (intOf i).toNat)
    case atStart => exact ⟨0, Nat.zero_le _, rfl, ⟨by rw [List.take_zero, List.flatMap_nil, List.append_nil]; exact HI4.out⟩, HK4⟩
    case round =>
      obtain ⟨k, hk, rfl, HI, HK⟩ := hrel
      clear HI4 HK4 HI3 HK3 HI2 HK2 HI1 HK1 HI0 HK0
      by_cases hlt : k < l6.length
      · obtain ⟨ad, rfl, hx0, hx1⟩ := xQ (Kd.C_below H6.out (iK HBW.out HK.out.1)) (k : Int) (by omega) (by omega)
        rw [UG] at hx0 hx1
        rw [Int.toNat_natCast] at hx0 hx1
        have hts := iC.mk (kT oC yJ l6 k hlt)
        have hpl : ([] ++ layB 6 1 ++ layB a1 4 ++ layB a5 4 ++ layB l6.length 1 ++ (l6.take k).flatMap oC).length + 10 ≤ 140737488355328 := by
          simp only [List.length_append, iQ, List.length_nil, I8, List.length_take]
          omega
        obtain ⟨s, hs⟩ : ∃ s, s = l6.getD k yJ := ⟨_, rfl⟩
        rw [← hs] at hx0 hx1 hts
        clear hs
        obtain ⟨pre, hpre⟩ : ∃ p, p = [] ++ layB 6 1 ++ layB a1 4 ++ layB a5 4 ++ layB l6.length 1 ++ (l6.take k).flatMap oC := ⟨_, rfl⟩
        have hrest : [] ++ layB 6 1 ++ layB a1 4 ++ layB a5 4 ++ layB l6.length 1 ++ (l6.take (k + 1)).flatMap oC = pre ++ oC s := by rw [hts.out, ← List.append_assoc, hpre]
        have HREST := iC.mk hrest
        rw [← hpre] at HI hpl
        have HPL := iC.mk (show (pre ++ layB s.f0 4).length + 1 ≤ 140737488355328 from by rw [List.length_append, iQ]; omega)
        have HPL4 := iC.mk (show pre.length + 4 ≤ 140737488355328 from by omega)
        clear hpre hrest hts hpl
        obtain ⟨wo, rfl⟩ : ∃ wo : World, wo = wr := ⟨_, rfl⟩
        have HBX := iC.mk (Bf.alloc HI.out (.cells #[.int .i64 s.f0, .int .i64 s.f1] 98))
        have HKX := iC.mk (HK.out.alloc HK.out.1.size (.cells #[.int .i64 s.f0, .int .i64 s.f1] 98))
        have HNE := iC.mk (show wo.heap.size ≠ w1.heap.size from by have := HI.out.lt; omega)
        go_wp2_with fail
        refine (nN _ _ pre _ _ HBX.out HKX.out.1.size HPL4.out).mono ?_
        rintro e w2 ⟨rfl, hI, hK⟩
        have HI1 := iC.mk hI
        have HK1 := iC.mk (HKX.out.trans hK)
        have hblk := hK.block (iZ rfl) HNE.out (by decide)
        clear hI hK
        have hz1 : w2.cell? ⟨wo.heap.size, 1, none⟩ = some (.int .i64 s.f1) := (iE hblk 1).trans rfl
        clear hblk
        go_wp2_with fail
        refine (pM _ _ _ _ _ HI1.out HK1.out.1.size HPL.out).mono ?_
        rintro e w3 ⟨rfl, hI, hK⟩
        have HI2 := iC.mk hI
        have HK2 := iC.mk (HK1.out.trans hK)
        clear hI hK
        go_wp2
        go_roundw
        case rel => exact ⟨k + 1, by omega, by go_num, ⟨by rw [HREST.out, oC, ← List.append_assoc]; exact HI2.out⟩, HK2⟩
        case measure => simp [intOf]; omega
      · skip
        obtain rfl : k = l6.length := by omega
        have hI' := HI.out
        rw [List.take_length] at hI'
        have HI' := iC.mk hI'
        clear hI'
        go_wp2_with (first | (go_at_call 55; refine (Tryd.Buffer_Len w1.heap.size w1.heap.size _ _ (HI'.out)).mono ?_; rintro e wl ⟨rfl, nl, rfl⟩; rw [Lib.byteCells_length, ← HLEN.out]))
        go_ret2
        exact ⟨_, rfl, Kd.R_nil _ _ _ _ _, by have hz := HBW.out; have hy := HK.out.1; exact iF (iK hz hy) _⟩
  · rw [if_neg hbig]
    have hbigI : ¬ (60000 : Int) < (X.length : Int) := by omega
    clear hbig
    go_enter Tryd.func17, Tryd.ntmps17
    go_wp2_with (first | (go_at_call 19; refine (code_Sound.calls 6 a1 a2 A3 c3 l3 A4 c4 l4 a5 A6 c6 l6 a7 a8 A9 c9 l9 _ _ (Kd.C_below H3.out bel_) d3 (Kd.C_below H4.out bel_) d4 (Kd.C_below H6.out bel_) d6 (Kd.C_below H9.out bel_) d9 rfl).mono ?_; rintro e w1 ⟨rfl, hb1⟩; rw [HS.out]; have HBW := iC.mk (show Below w.heap.size w w1 from iK (iG (Below.refl _ _) _) hb1); have HBK := iC.mk (iO hb1 (iZ rfl)); clear hb1; have HI0 := iC.mk (Bf.fresh w1); have HK0 := iC.mk ((Kp.refl w1.heap.size w1.heap.size w1).alloc (Nat.le_refl _) (.cells #[.slice none 0 0, .int .i64 0, .int .i8 0] 91)); obtain ⟨z0, z1, z2, z3, z4, z5, z6, z7, z8, z9, y0, y1, y2, y3, y4, y5, y6, y7, y8, y9⟩ := ten (jM (o := (.cells #[.slice none 0 0, .int .i64 0, .int .i8 0] 91)) HBK.out); clear y0 y1 y2 y3 y4 y5 y6 y7 y8 y9) | (go_at_call 49; refine (oG w1.heap.size w1.heap.size _ _ _ HI0.out HK0.out.1.size (by first | omega | (simp only [List.length_append, iQ, List.length_nil, jB]; omega))).mono ?_; rintro e w2 ⟨rfl, hI, hK⟩; have HI1 := iC.mk hI; have HK1 := iC.mk (HK0.out.trans hK); clear hI hK z0 z1 z2 z3 z4 z5 z6 z7 z8 z9; obtain ⟨z0, z1, z2, z3, z4, z5, z6, z7, z8, z9, y0, y1, y2, y3, y4, y5, y6, y7, y8, y9⟩ := ten (iO HK1.out.1 HBK.out); clear y0 y1 y2 y3 y4 y5 y6 y7 y8 y9) | (go_at_call 50; refine (lH w1.heap.size w1.heap.size _ _ _ HI1.out HK1.out.1.size (by first | omega | (simp only [List.length_append, iQ, List.length_nil, jB]; omega))).mono ?_; rintro e w3 ⟨rfl, hI, hK⟩; have HI2 := iC.mk hI; have HK2 := iC.mk (HK1.out.trans hK); clear hI hK z0 z1 z2 z3 z4 z5 z6 z7 z8 z9; obtain ⟨z0, z1, z2, z3, z4, z5, z6, z7, z8, z9, y0, y1, y2, y3, y4, y5, y6, y7, y8, y9⟩ := ten (iO HK2.out.1 HBK.out); clear y0 y1 y2 y3 y4 y5 y6 y7 y8 y9) | (go_at_call 50; refine (lH w1.heap.size w1.heap.size _ _ _ HI2.out HK2.out.1.size (by first | omega | (simp only [List.length_append, iQ, List.length_nil, jB]; omega))).mono ?_; rintro e w4 ⟨rfl, hI, hK⟩; have HI3 := iC.mk hI; have HK3 := iC.mk (HK2.out.trans hK); clear hI hK z0 z1 z2 z3 z4 z5 z6 z7 z8 z9; obtain ⟨z0, z1, z2, z3, z4, z5, z6, z7, z8, z9, y0, y1, y2, y3, y4, y5, y6, y7, y8, y9⟩ := ten (iO HK3.out.1 HBK.out); clear y0 y1 y2 y3 y4 y5 y6 y7 y8 y9) | (go_at_call 53; refine (pM w1.heap.size w1.heap.size _ _ _ HI3.out HK3.out.1.size (by first | omega | (simp only [List.length_append, iQ, List.length_nil, jB]; omega))).mono ?_; rintro e w5 ⟨rfl, hI, hK⟩; have HI4 := iC.mk hI; have HK4 := iC.mk (HK3.out.trans hK); clear hI hK z0 z1 z2 z3 z4 z5 z6 z7 z8 z9; obtain ⟨z0, z1, z2, z3, z4, z5, z6, z7, z8, z9, y0, y1, y2, y3, y4, y5, y6, y7, y8, y9⟩ := ten (iO HK4.out.1 HBK.out); clear y0 y1 y2 y3 y4 y5 y6 y7 y8 y9))
    clear z0 z1 z2 z3 z4 z5 z6 z7 z8 z9
    go_loopw [59] (fun i wr => ∃ k : Nat, k ≤ l6.length ∧ i = .int .i64 k ∧ iC (Bf w1.heap.size w1.heap.size ([] ++ layB 6 1 ++ layB a1 4 ++ layB a5 4 ++ layB l6.length 1 ++ (l6.take k).flatMap oC) wr) ∧ iC (Kp w1.heap.size w1.heap.size w1 wr)) (fun i _ => l6.length - (intOf i).toNat)
    case atStart => exact ⟨0, Nat.zero_le _, rfl, ⟨by rw [List.take_zero, List.flatMap_nil, List.append_nil]; exact HI4.out⟩, HK4⟩
    case round =>
      obtain ⟨k, hk, rfl, HI, HK⟩ := hrel
      clear HI4 HK4 HI3 HK3 HI2 HK2 HI1 HK1 HI0 HK0
      by_cases hlt : k < l6.length
      · obtain ⟨ad, rfl, hx0, hx1⟩ := xQ (Kd.C_below H6.out (iK HBW.out HK.out.1)) (k : Int) (by omega) (by omega)
        rw [UG] at hx0 hx1
        rw [Int.toNat_natCast] at hx0 hx1
        have hts := iC.mk (kT oC yJ l6 k hlt)
        have hpl : ([] ++ layB 6 1 ++ layB a1 4 ++ layB a5 4 ++ layB l6.length 1 ++ (l6.take k).flatMap oC).length + 10 ≤ 140737488355328 := by
          simp only [List.length_append, iQ, List.length_nil, I8, List.length_take]
          omega
        obtain ⟨s, hs⟩ : ∃ s, s = l6.getD k yJ := ⟨_, rfl⟩
        rw [← hs] at hx0 hx1 hts
        clear hs
        obtain ⟨pre, hpre⟩ : ∃ p, p = [] ++ layB 6 1 ++ layB a1 4 ++ layB a5 4 ++ layB l6.length 1 ++ (l6.take k).flatMap oC := ⟨_, rfl⟩
        have hrest : [] ++ layB 6 1 ++ layB a1 4 ++ layB a5 4 ++ layB l6.length 1 ++ (l6.take (k + 1)).flatMap oC = pre ++ oC s := by rw [hts.out, ← List.append_assoc, hpre]
        have HREST := iC.mk hrest
        rw [← hpre] at HI hpl
        have HPL := iC.mk (show (pre ++ layB s.f0 4).length + 1 ≤ 140737488355328 from by rw [List.length_append, iQ]; omega)
        have HPL4 := iC.mk (show pre.length + 4 ≤ 140737488355328 from by omega)
        clear hpre hrest hts hpl
        obtain ⟨wo, rfl⟩ : ∃ wo : World, wo = wr := ⟨_, rfl⟩
        have HBX := iC.mk (Bf.alloc HI.out (.cells #[.int .i64 s.f0, .int .i64 s.f1] 98))
        have HKX := iC.mk (HK.out.alloc HK.out.1.size (.cells #[.int .i64 s.f0, .int .i64 s.f1] 98))
        have HNE := iC.mk (show wo.heap.size ≠ w1.heap.size from by have := HI.out.lt; omega)
        go_wp2_with fail
        refine (nN _ _ pre _ _ HBX.out HKX.out.1.size HPL4.out).mono ?_
        rintro e w2 ⟨rfl, hI, hK⟩
        have HI1 := iC.mk hI
        have HK1 := iC.mk (HKX.out.trans hK)
        have hblk := hK.block (iZ rfl) HNE.out (by decide)
        clear hI hK
        have hz1 : w2.cell? ⟨wo.heap.size, 1, none⟩ = some (.int .i64 s.f1) := (iE hblk 1).trans rfl
        clear hblk
        go_wp2_with fail
        refine (pM _ _ _ _ _ HI1.out HK1.out.1.size HPL.out).mono ?_
        rintro e w3 ⟨rfl, hI, hK⟩
        have HI2 := iC.mk hI
        have HK2 := iC.mk (HK1.out.trans hK)
        clear hI hK
        go_wp2
        go_roundw
        case rel => exact ⟨k + 1, by omega, by go_num, ⟨by rw [HREST.out, oC, ← List.append_assoc]; exact HI2.out⟩, HK2⟩
        case measure => simp [intOf]; omega
      · skip
        obtain rfl : k = l6.length := by omega
        have hI' := HI.out
        rw [List.take_length] at hI'
        have HI' := iC.mk hI'
        clear hI'
        go_wp2_with (first | (go_at_call 55; refine (Tryd.Buffer_Len w1.heap.size w1.heap.size _ _ (HI'.out)).mono ?_; rintro e wl ⟨rfl, nl, rfl⟩; rw [Lib.byteCells_length, ← HLEN.out]) | (go_at_call 56; refine (Tryd.Buffer_Bytes w1.heap.size w1.heap.size _ _ (HI'.out.drewN _)).mono ?_; rintro e wb ⟨v, rfl, hv, nb, rfl⟩; have HV := iC.mk hv; clear hv))
        go_ret2
        exact ⟨_, rfl, by rw [HX.out, jb_]; exact pU HV.out HBW.out.size, by have hz := HBW.out; have hy := HK.out.1; exact iF (iK hz hy) _⟩
set_option maxHeartbeats 2000000 in
theorem XM (hs : jZ ⟨a0, a1, a2, l3, l4, ⟨a5, l6⟩, a7, a8, l9⟩ = false) : Calls Tryd.prog 17 #[.agg #[.int .u8 a0, .int .u32 a1, .int .u32 a2, .slice A3 l3.length c3, .slice A4 l4.length c4, .int .u32 a5, .slice A6 l6.length c6, .int .i64 a7, .int .i64 a8, .slice A9 l9.length c9]] w (oZ w (encR ⟨a0, a1, a2, l3, l4, ⟨a5, l6⟩, a7, a8, l9⟩)) := by
  have H3 := iC.mk h3; have H4 := iC.mk h4; have H6 := iC.mk h6; have H9 := iC.mk h9
  clear h3 h4 h6 h9
  unfold encR
  rw [if_neg (by rw [hs]; exact Bool.false_ne_true)]
  have HS := iC.mk hs
  clear hs
  go_enter Tryd.func17, Tryd.ntmps17
  go_wp2_with (first | (go_at_call 19; refine (code_Sound.calls a0 a1 a2 A3 c3 l3 A4 c4 l4 a5 A6 c6 l6 a7 a8 A9 c9 l9 _ _ (Kd.C_below H3.out bel_) d3 (Kd.C_below H4.out bel_) d4 (Kd.C_below H6.out bel_) d6 (Kd.C_below H9.out bel_) d9 rfl).mono ?_; rintro e w1 ⟨rfl, hb1⟩; rw [HS.out]))
  go_ret2
  exact ⟨_, rfl, Kd.R_nil _ _ _ _ _, iK (iG (Below.refl _ _) _) hb1⟩
end
theorem code_Encode.calls (a0_0 : Int) (a0_1 : Int) (a0_2 : Int) (A0_3 : Option Addr) (c0_3 : Nat) (l0_3 : List Int) (A0_4 : Option Addr) (c0_4 : Nat) (l0_4 : List jP) (a0_5 : Int) (A0_6 : Option Addr) (c0_6 : Nat) (l0_6 : List kF) (a0_7 : Int) (a0_8 : Int) (A0_9 : Option Addr) (c0_9 : Nat) (l0_9 : List jF) (r1 : List Int) (r2 : Int) (w : World) (hr0_3 : Kd.C (Kd.int .i64) w A0_3 l0_3.length l0_3) (hc0_3 : l0_3.length ≤ c0_3) (hr0_4 : Kd.C k139 w A0_4 l0_4.length l0_4) (hc0_4 : l0_4.length ≤ c0_4) (hr0_6 : Kd.C k98 w A0_6 l0_6.length l0_6) (hc0_6 : l0_6.length ≤ c0_6) (hr0_9 : Kd.C k86 w A0_9 l0_9.length l0_9) (hc0_9 : l0_9.length ≤ c0_9) (h : code_Encode.f a0_0 a0_1 a0_2 l0_3 l0_4 a0_5 l0_6 a0_7 a0_8 l0_9 = some (r1, r2)) :
    Calls Tryd.prog 17 #[.agg #[.int .u8 a0_0, .int .u32 a0_1, .int .u32 a0_2, .slice A0_3 l0_3.length c0_3, .slice A0_4 l0_4.length c0_4, .int .u32 a0_5, .slice A0_6 l0_6.length c0_6, .int .i64 a0_7, .int .i64 a0_8, .slice A0_9 l0_9.length c0_9]] w fun e w' => ∃ v0_ : Value, e = .returned (.tuple #[v0_, .int .u16 r2]) ∧ Kd.R (Kd.int .u8) 5 w' w.heap.size (fun _ => True) v0_ r1 ∧ Below w.heap.size w w' := by
  have e := Option.some.inj h
  clear h
  have main : Calls Tryd.prog 17 #[.agg #[.int .u8 a0_0, .int .u32 a0_1, .int .u32 a0_2, .slice A0_3 l0_3.length c0_3, .slice A0_4 l0_4.length c0_4, .int .u32 a0_5, .slice A0_6 l0_6.length c0_6, .int .i64 a0_7, .int .i64 a0_8, .slice A0_9 l0_9.length c0_9]] w (oZ w (encR ⟨a0_0, a0_1, a0_2, l0_3, l0_4, ⟨a0_5, l0_6⟩, a0_7, a0_8, l0_9⟩)) := by
    clear e
    cases hs : jZ ⟨a0_0, a0_1, a0_2, l0_3, l0_4, ⟨a0_5, l0_6⟩, a0_7, a0_8, l0_9⟩ with
    | false => exact XM a0_0 a0_1 a0_2 A0_3 c0_3 l0_3 A0_4 c0_4 l0_4 a0_5 A0_6 c0_6 l0_6 a0_7 a0_8 A0_9 c0_9 l0_9 w hr0_3 hc0_3 hr0_4 hc0_4 hr0_6 hc0_6 hr0_9 hc0_9 hs
    | true =>
      by_cases h0 : a0_0 < 1 ∨ 7 < a0_0
      · rw [YH _ _ _ _ _ _ _ _ _ _ h0] at hs
        cases hs
      have h7 : a0_0 = 1 ∨ a0_0 = 2 ∨ a0_0 = 3 ∨ a0_0 = 4 ∨ a0_0 = 5 ∨ a0_0 = 6 ∨ a0_0 = 7 := by omega
      rcases h7 with rfl | rfl | rfl | rfl | rfl | rfl | rfl
      · exact WZ a0_1 a0_2 A0_3 c0_3 l0_3 A0_4 c0_4 l0_4 a0_5 A0_6 c0_6 l0_6 a0_7 a0_8 A0_9 c0_9 l0_9 w hr0_3 hc0_3 hr0_4 hc0_4 hr0_6 hc0_6 hr0_9 hc0_9 hs
      · exact XX a0_1 a0_2 A0_3 c0_3 l0_3 A0_4 c0_4 l0_4 a0_5 A0_6 c0_6 l0_6 a0_7 a0_8 A0_9 c0_9 l0_9 w hr0_3 hc0_3 hr0_4 hc0_4 hr0_6 hc0_6 hr0_9 hc0_9 hs
      · exact XL a0_1 a0_2 A0_3 c0_3 l0_3 A0_4 c0_4 l0_4 a0_5 A0_6 c0_6 l0_6 a0_7 a0_8 A0_9 c0_9 l0_9 w hr0_3 hc0_3 hr0_4 hc0_4 hr0_6 hc0_6 hr0_9 hc0_9 hs
      · exact XQ a0_1 a0_2 A0_3 c0_3 l0_3 A0_4 c0_4 l0_4 a0_5 A0_6 c0_6 l0_6 a0_7 a0_8 A0_9 c0_9 l0_9 w hr0_3 hc0_3 hr0_4 hc0_4 hr0_6 hc0_6 hr0_9 hc0_9 hs
      · exact WF a0_1 a0_2 A0_3 c0_3 l0_3 A0_4 c0_4 l0_4 a0_5 A0_6 c0_6 l0_6 a0_7 a0_8 A0_9 c0_9 l0_9 w hr0_3 hc0_3 hr0_4 hc0_4 hr0_6 hc0_6 hr0_9 hc0_9 hs
      · exact VZ a0_1 a0_2 A0_3 c0_3 l0_3 A0_4 c0_4 l0_4 a0_5 A0_6 c0_6 l0_6 a0_7 a0_8 A0_9 c0_9 l0_9 w hr0_3 hc0_3 hr0_4 hc0_4 hr0_6 hc0_6 hr0_9 hc0_9 hs
      · exact XP a0_1 a0_2 A0_3 c0_3 l0_3 A0_4 c0_4 l0_4 a0_5 A0_6 c0_6 l0_6 a0_7 a0_8 A0_9 c0_9 l0_9 w hr0_3 hc0_3 hr0_4 hc0_4 hr0_6 hc0_6 hr0_9 hc0_9 hs
  rw [e] at main
  exact main
end Go.Proofs.YtgfkgppomaapiaaDoor.K
end

section
namespace Go.Proofs.YtgfkgppomaapiaaDoor.K
open Go.RowKit Go.Proofs.YtgfkgppomaapiaaDoorW.PrintWords Go.Proofs.YtgfkgppomaapiaaDoorW.PrintLast Go.Proofs.YtgfkgppomaapiaaDoorW.PrintMore
attribute [local go_sem] kE kC kN kL
def stratumref07_Put.l0 : Nat → List Int → Int → Int → Option (List Int)
  | 0, _, _, _ => none
  | k + 1, x0, x1, x7 => if x7 ≥ 0 then (if 0 ≤ (IntKind.u64.wrap (8 * (IntKind.u64.wrap (x7)))) then (if x0.length < 140737488355328 then (stratumref07_Put.l0 k (x0 ++ [(shr .u64 x1 (IntKind.u64.wrap (8 * (IntKind.u64.wrap (x7))))) % 256]) x1 (wrap64 (x7 - 1))) else (none)) else (none)) else (some x0)
def stratumref07_Put.f (k : Nat) (l0 : List Int) (a1 : Int) (a2 : Int) : Option (List Int) := stratumref07_Put.l0 k l0 a1 (wrap64 (a2 - 1))
set_option maxHeartbeats 8000000 in
set_option maxRecDepth 100000 in
theorem stratumref07_Put.calls (k : Nat) (P0_ : Nat → Prop) (u9000_ : Value) (l0 : List Int) (a1 : Int) (a2 : Int) (r : List Int) (w0 w : World) (hB : Below w0.heap.size w0 w) (ho0 : Kd.R (Kd.int .u8) 5 w w0.heap.size P0_ u9000_ l0) (h : stratumref07_Put.f k l0 a1 a2 = some r) :
    Calls Tryd.prog 57 #[u9000_, .int .u64 a1, .int .i64 a2] w fun e w' => ∃ v0_ : Value, e = .returned (v0_) ∧ Kd.R (Kd.int .u8) 5 w' w0.heap.size (fun k_ => (P0_ k_ ∨ w.heap.size ≤ k_)) v0_ r ∧ Below w0.heap.size w0 w' ∧ Kept w w' (fun k_ => P0_ k_) := by
  have HO0 := iC.mk (show Kd.R (Kd.int .u8) 5 w w0.heap.size (fun k_ => (P0_ k_ ∨ w.heap.size ≤ k_)) u9000_ l0 from Kd.R_mono ho0 (fun k_ hk => (.inl hk)))
  have HK := iC.mk (Kept.refl w (fun k_ => P0_ k_))
  have HW0 := iC.mk hB.size
  have HB := iC.mk hB
  clear hB
  have H : (stratumref07_Put.l0 k l0 a1 (wrap64 (a2 - 1))) = some r := h
  clear h
  have H' := iC.mk H
  clear H
  go_enter Tryd.func57, Tryd.ntmps57
  go_wp2
  go_loopg [0, 7] k (fun kq v0 v7 w' => ∃ (x0_1 : List Int) (x7_1 : Int), v7 = .int .i64 x7_1 ∧ iC (stratumref07_Put.l0 kq x0_1 a1 x7_1 = some r) ∧ iC (kq ≤ k) ∧ iC (Kd.R (Kd.int .u8) 5 w' w0.heap.size (fun k_ => (P0_ k_ ∨ w.heap.size ≤ k_)) v0 x0_1) ∧ iC (Kept w w' (fun k_ => P0_ k_)) ∧ iC (Below w0.heap.size w0 w'))
  case atStart => exact ⟨(l0), (wrap64 (a2 - 1)), (by first | rfl | (simp; done) | (simp [*]; done)), H', ⟨Nat.le_refl _⟩, ⟨by (with_reducible repeat (first | apply Kd.R_alloc | apply Kd.R_drewN | apply Kd.R_drew)); exact HO0.out⟩, ⟨by repeat (first | (with_reducible first | exact HK.out | apply Kept.alloc | apply Kept.drewN | apply Kept.drew) | exact HK.out)⟩, ⟨hb_⟩⟩
  case round =>
    clear H'
    try clear p2
    obtain ⟨x0_1, x7_1, rfl, HA, HK1, HO_0, HK, HB⟩ := hrel
    cases gk with
    | zero => exact absurd HA.out (by simp [stratumref07_Put.l0])
    | succ k1 =>
      have H := HA.out
      clear HA
      simp only [stratumref07_Put.l0] at H
      by_cases c4 : x7_1 ≥ 0
      · rw [if_pos c4] at H
        have c4b0 : decide (0 ≤ x7_1) = true := decide_eq_true c4
        clear c4
        obtain ⟨ji5, hji5⟩ : ∃ j_ : Int, (IntKind.u64.wrap (8 * (IntKind.u64.wrap (x7_1)))) = j_ := ⟨_, rfl⟩
        replace H : (if 0 ≤ (ji5) then (if x0_1.length < 140737488355328 then (stratumref07_Put.l0 k1 (x0_1 ++ [(shr .u64 a1 (ji5)) % 256]) a1 (wrap64 (x7_1 - 1))) else (none)) else (none)) = some r := by first | (rw [hji5] at H; exact H) | (simp only [hji5] at H ⊢; exact H)
        by_cases c6 : 0 ≤ (ji5)
        · rw [if_pos c6] at H
          have c6b0 := eq_true c6
          have c6b1 : decide (0 ≤ (ji5)) = true := decide_eq_true c6
          clear c6
          obtain ⟨ji7, hji7⟩ : ∃ j_ : Int, (shr .u64 a1 (ji5)) = j_ := ⟨_, rfl⟩
          replace H : (if x0_1.length < 140737488355328 then (stratumref07_Put.l0 k1 (x0_1 ++ [(ji7) % 256]) a1 (wrap64 (x7_1 - 1))) else (none)) = some r := by first | (rw [hji7] at H; exact H) | (simp only [hji7] at H ⊢; exact H)
          have hji7_ : (a1 / 2 ^ min (ji5).toNat 64) = ji7 := hji7
          have hji7z : (ji5) ≤ 64 → (a1 / 2 ^ (ji5).toNat) = ji7 := LK hji7
          by_cases c8 : x0_1.length < 140737488355328
          · rw [if_pos c8] at H
            have LMc8 := iC.mk c8
            clear c8
            obtain ⟨y146, hy146⟩ : ∃ y_ : List Int, y_ = (x0_1 ++ [(ji7) % 256]) := ⟨_, rfl⟩
            replace H : (stratumref07_Put.l0 k1 y146 a1 (wrap64 (x7_1 - 1))) = some r := by first | (rw [hy146]; with_reducible exact H) | (have H2_ := (Option.bind_some _ _).symm.trans H; rw [hy146]; with_reducible exact H2_) | (have H2_ := (Option.bind_some _ _).symm.trans H; with_reducible exact H2_) | with_reducible exact H | (rw [hy146]; exact H) | exact H
            have Ny146 := iC.mk hy146
            clear hy146
            have H' := iC.mk H
            clear H
            go_wp2_with (first | ((with_reducible refine oH (b := .append) (xs := #[.tmp 14, .tmp 21]) rfl ?_); at_builtin; refine Kd.R_append (Kd.int .u8) (w0 := w0) w0.heap.size rfl (.tmp 14) (.tmp 21) 33 5 (.int .u8 0) 1 rfl Tryd.underlying33 info5 rfl (by decide) (by omega) u0 x0_1 ((ji7) % 256) [.int .u8 ((ji7) % 256)] (fun k_ => (P0_ k_ ∨ w.heap.size ≤ k_)) (fun _ => False) rfl rfl ?aP (fun _ hk => hk.elim) ?aF ?aO ?aB ?aS ?aL ?_; (case aP => exact rfl); (case aB => exact hb_); (case aF => exact (fun k_ hk => (.inr (Nat.le_trans (by first | exact HK.out.1 | exact (show Kept w _ (fun k_ => P0_ k_) from by repeat (first | (with_reducible first | exact HK.out | apply Kept.alloc | apply Kept.drewN | apply Kept.drew) | exact HK.out)).1) hk)))); (case aO => exact (by (with_reducible repeat (first | apply Kd.R_alloc | apply Kd.R_drewN | apply Kd.R_drew)); exact HO_0.out)); (case aS => exact (iP hb_)); (case aL => have := LMc8.out; omega); intro v147 w9 ho hb hg hat; rw [← Ny146.out] at ho; have n0_ := iC.mk (hb); have n1_ := iC.mk (Kept.of_grown (S := (fun k_ => P0_ k_)) hg (by repeat (first | (with_reducible first | exact HK.out | apply Kept.alloc | apply Kept.drewN | apply Kept.drew) | exact HK.out)) (fun k_ e_ => (HO_0.out.1 k_ e_))); have n2_ := iC.mk (ho); clear HB; clear HK; clear HO_0; have HB := n0_; have HK := n1_; have HO148 := n2_; clear n0_ n1_ n2_; clear ho hb hg hat))
            go_roundg k1
            case measure => have := HK1.out; omega
            case rel => exact ⟨(y146), (wrap64 (x7_1 - 1)), (by first | rfl | (simp; done) | (simp [*]; done)), H', ⟨by have := HK1.out; omega⟩, ⟨by (with_reducible repeat (first | apply Kd.R_alloc | apply Kd.R_drewN | apply Kd.R_drew)); exact HO148.out⟩, ⟨by repeat (first | (with_reducible first | exact HK.out | apply Kept.alloc | apply Kept.drewN | apply Kept.drew) | exact HK.out)⟩, ⟨hb_⟩⟩
          · rw [if_neg c8] at H
            exact absurd H (by simp)
        · rw [if_neg c6] at H
          exact absurd H (by simp)
      · rw [if_neg c4] at H
        have c4b0 : decide (0 ≤ x7_1) = false := decide_eq_false c4
        clear c4
        obtain rfl := Option.some.inj H
        go_wp2
        go_ret
        exact ⟨_, by first | rfl | (simp [iV, iU] <;> rfl) | (simp [*, iV, iU] <;> rfl), by (with_reducible repeat (first | apply Kd.R_alloc | apply Kd.R_drewN | apply Kd.R_drew)); exact HO_0.out, hb_, by repeat (first | (with_reducible first | exact HK.out | apply Kept.alloc | apply Kept.drewN | apply Kept.drew) | exact HK.out)⟩
end Go.Proofs.YtgfkgppomaapiaaDoor.K
end

section
namespace Go.Proofs.YtgfkgppomaapiaaDoor.K
open Go.RowKit Go.Proofs.YtgfkgppomaapiaaDoorW.PrintWords Go.Proofs.YtgfkgppomaapiaaDoorW.PrintLast Go.Proofs.YtgfkgppomaapiaaDoorW.PrintMore
attribute [local go_sem] kE kC kN kL
def stratumref07_Nodes.l0 : Nat → List Int → List Int → Int → Option (List Int)
  | 0, _, _, _ => none
  | k + 1, x0, x1, x5 => if x5 < (x1.length : Int) then (if 0 ≤ x5 then ((stratumref07_Put.f k x0 (IntKind.u64.wrap (rd x1 x5)) 1).bind fun t153 => (stratumref07_Nodes.l0 k t153 x1 (wrap64 (x5 + 1)))) else (none)) else (some x0)
def stratumref07_Nodes.f (k : Nat) (l0 : List Int) (l1 : List Int) : Option (List Int) := (stratumref07_Put.f k l0 (IntKind.u64.wrap ((l1.length : Int))) 1).bind fun t149 => (stratumref07_Nodes.l0 k t149 l1 0)
end Go.Proofs.YtgfkgppomaapiaaDoor.K
end
