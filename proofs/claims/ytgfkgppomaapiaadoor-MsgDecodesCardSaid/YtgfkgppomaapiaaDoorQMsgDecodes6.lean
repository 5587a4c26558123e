/- Parts of the proof, one behind the other: CodeE, K39, K40, K41, RefP, RefN, RefE, CodeT, K33. -/
import Derived.Test.YtgfkgppomaapiaaDoorQMsgDecodes5
import Derived.Recover
import Derived.Defers
set_option linter.unusedVariables false
set_option linter.unusedSimpArgs false
section
namespace Go.Proofs.YtgfkgppomaapiaaDoor.K
open RowKit YtgfkgppomaapiaaDoorW.PrintWords YtgfkgppomaapiaaDoorW.PrintLast YtgfkgppomaapiaaDoorW.PrintMore My
def nums (l : List UInt8) : List Int := l.map fun c => (c.toNat : Int)
theorem jC (l : List UInt8) : (nums l).length = l.length := List.length_map ..
def encR (r : SRec) : List Int × Int := if jJ r = true then (if 60000 < (recE r).length then ([], 3) else (nums (recE r), 0)) else ([], 1)
def code_Encode.f (a0_0 : Int) (a0_1 : Int) (a0_2 : Int) (l0_3 : List Int) (l0_4 : List jQ) (a0_5 : Int) (l0_6 : List kC) (a0_7 : Int) (a0_8 : Int) (l0_9 : List jG) : Option (List Int × Int) :=
  some (encR ⟨a0_0, a0_1, a0_2, l0_3, l0_4, ⟨a0_5, l0_6⟩, a0_7, a0_8, l0_9⟩)
theorem qE {w : World} {B base : Nat} {v : Value} {l : List UInt8} (h : w.ownsRow B 5 1 v (Lib.byteCells l).length (Lib.byteCells l)) (hb : base ≤ B) : Kd.R (Kd.int .u8) 5 w base (fun _ => True) v (nums l) := by
  refine Kd.R_lower (Kd.R_of_own ?_ (fun _ _ => trivial)) hb
  have e : Lib.byteCells l = encs (Value.int .u8) (nums l) := by simp [Lib.byteCells, encs, nums]
  have e2 : (nums l).length = (Lib.byteCells l).length := by rw [jC, Lib.byteCells_length]
  rw [e2, ← e]
  exact h
theorem iV (l : List Int) : (lY l).length = 1 + l.length := by unfold lY; rw [List.length_append, iL, II]; omega
def qA (w : World) (r : List Int × Int) (e : Ending) (w' : World) : Prop := ∃ v0_ : Value, e = .returned (.tuple #[v0_, .int .u16 r.2]) ∧ Kd.R (Kd.int .u8) 5 w' w.heap.size (fun _ => True) v0_ r.1 ∧ Below w.heap.size w w'
theorem VK (a1 a2 : Int) (l3 : List Int) (l4 : List jQ) (a5 : Int) (l6 : List kC) (a7 a8 : Int) (l9 : List jG) : recE ⟨1, a1, a2, l3, l4, ⟨a5, l6⟩, a7, a8, l9⟩ = [] ++ layB 1 1 ++ layB a1 4 ++ lY l3 ++ kH l4 := by
  simp [recE, JF]
theorem VA (a1 a2 : Int) (l3 : List Int) (l4 : List jQ) (a5 : Int) (l6 : List kC) (a7 a8 : Int) (l9 : List jG) : recE ⟨2, a1, a2, l3, l4, ⟨a5, l6⟩, a7, a8, l9⟩ = [] ++ layB 2 1 ++ layB a1 4 ++ layB a2 4 ++ lY l3 := by
  simp [recE, JF]
theorem VE (a1 a2 : Int) (l3 : List Int) (l4 : List jQ) (a5 : Int) (l6 : List kC) (a7 a8 : Int) (l9 : List jG) : recE ⟨3, a1, a2, l3, l4, ⟨a5, l6⟩, a7, a8, l9⟩ = [] ++ layB 3 1 ++ layB a1 4 := by
  simp [recE, JF]
theorem V5 (a1 a2 : Int) (l3 : List Int) (l4 : List jQ) (a5 : Int) (l6 : List kC) (a7 a8 : Int) (l9 : List jG) : recE ⟨4, a1, a2, l3, l4, ⟨a5, l6⟩, a7, a8, l9⟩ = [] ++ layB 4 1 ++ layB a1 4 := by
  simp [recE, JF]
theorem VF (a1 a2 : Int) (l3 : List Int) (l4 : List jQ) (a5 : Int) (l6 : List kC) (a7 a8 : Int) (l9 : List jG) : recE ⟨5, a1, a2, l3, l4, ⟨a5, l6⟩, a7, a8, l9⟩ = [] ++ layB 5 1 ++ layB a1 4 := by
  simp [recE, JF]
theorem WF (a1 a2 : Int) (l3 : List Int) (l4 : List jQ) (a5 : Int) (l6 : List kC) (a7 a8 : Int) (l9 : List jG) : recE ⟨7, a1, a2, l3, l4, ⟨a5, l6⟩, a7, a8, l9⟩ = [] ++ layB 7 1 ++ layB a1 4 ++ layB a7 4 ++ layB a8 4 ++ jS l9 := by
  simp [recE, JF]
theorem VY (a1 a2 : Int) (l3 : List Int) (l4 : List jQ) (a5 : Int) (l6 : List kC) (a7 a8 : Int) (l9 : List jG) : recE ⟨6, a1, a2, l3, l4, ⟨a5, l6⟩, a7, a8, l9⟩ = [] ++ layB 6 1 ++ layB a1 4 ++ layB a5 4 ++ layB l6.length 1 ++ l6.flatMap nT := by
  simp [recE, JF, UV]
theorem vP (l : List kC) : (l.flatMap nT).length = 5 * l.length := by
  induction l with
  | nil => rfl
  | cons x l ih => rw [List.flatMap_cons, List.length_append, ih, nT, List.length_append, iL, iL, List.length_cons]; omega
theorem RJ (l : List kC) (k : Nat) : jO l (k : Int) = l.getD k xN := by unfold jO xN; rw [Int.toNat_natCast]
section
variable (a0 a1 a2 : Int) (A3 : Option Addr) (c3 : Nat) (l3 : List Int) (A4 : Option Addr) (c4 : Nat) (l4 : List jQ) (a5 : Int) (A6 : Option Addr) (c6 : Nat) (l6 : List kC) (a7 a8 : Int) (A9 : Option Addr) (c9 : Nat) (l9 : List jG) (w : World)
  (h3 : Kd.C (Kd.int .i64) w A3 l3.length l3) (d3 : l3.length ≤ c3) (h4 : Kd.C k139 w A4 l4.length l4) (d4 : l4.length ≤ c4) (h6 : Kd.C k98 w A6 l6.length l6) (d6 : l6.length ≤ c6) (h9 : Kd.C k86 w A9 l9.length l9) (d9 : l9.length ≤ c9)
include h3 d3 h4 d4 h6 d6 h9 d9
set_option maxHeartbeats 8000000 in
set_option maxRecDepth 20000 in
theorem U5 (hs : jJ ⟨1, a1, a2, l3, l4, ⟨a5, l6⟩, a7, a8, l9⟩ = true) : Calls Tryd.prog 17 #[.agg #[.int .u8 1, .int .u32 a1, .int .u32 a2, .slice A3 l3.length c3, .slice A4 l4.length c4, .int .u32 a5, .slice A6 l6.length c6, .int .i64 a7, .int .i64 a8, .slice A9 l9.length c9]] w (qA w (encR ⟨1, a1, a2, l3, l4, ⟨a5, l6⟩, a7, a8, l9⟩)) := by
  have H3 := iC.mk h3; have H4 := iC.mk h4; have H6 := iC.mk h6; have H9 := iC.mk h9
  clear h3 h4 h6 h9
  have HS := iC.mk hs
  have hl3 : l3.length ≤ 6 ∧ (kH l4).length ≤ 5004 := by
    have h := HS.out
    rw [QB, Bool.and_eq_true, Bool.and_eq_true] at h
    exact ⟨oV _ h.1.1, uF _ h.1.2⟩
  obtain ⟨q3, q4⟩ := hl3
  unfold encR
  rw [if_pos HS.out]
  have hm3 := kQ H3.out
  have hm6 := kQ H6.out
  obtain ⟨X, hX⟩ : ∃ X : List UInt8, X = recE ⟨1, a1, a2, l3, l4, ⟨a5, l6⟩, a7, a8, l9⟩ := ⟨_, rfl⟩
  rw [← hX]
  have HX := iC.mk hX
  have HLEN := iC.mk (show X.length = _ from congrArg List.length (hX.trans (VK _ _ _ _ _ _ _ _ _)))
  clear hs hX
  by_cases hbig : 60000 < X.length
  · rw [if_pos hbig]
    have hbigI : (60000 : Int) < (X.length : Int) := by omega
    clear hbig
    go_enter Tryd.func17, Tryd.ntmps17
    go_wp2_with (first | (go_at_call 19; refine (code_Sound.calls 1 a1 a2 A3 c3 l3 A4 c4 l4 a5 A6 c6 l6 a7 a8 A9 c9 l9 _ _ (Kd.C_below H3.out bel_) d3 (Kd.C_below H4.out bel_) d4 (Kd.C_below H6.out bel_) d6 (Kd.C_below H9.out bel_) d9 rfl).mono ?_; rintro e w1 ⟨rfl, hb1⟩; rw [HS.out]; have HBW := iC.mk (show Below w.heap.size w w1 from iH (iF (Below.refl _ _) _) hb1); have HBK := iC.mk (iJ hb1 (iM rfl)); clear hb1; have HI0 := iC.mk (Bf.fresh w1); have HK0 := iC.mk ((Kp.refl w1.heap.size w1.heap.size w1).alloc (Nat.le_refl _) (.cells #[.slice none 0 0, .int .i64 0, .int .i8 0] 91)); obtain ⟨z0, z1, z2, z3, z4, z5, z6, z7, z8, z9, y0, y1, y2, y3, y4, y5, y6, y7, y8, y9⟩ := ten (jD (o := (.cells #[.slice none 0 0, .int .i64 0, .int .i8 0] 91)) HBK.out); clear y0 y1 y2 y3 y4 y5 y6 y7 y8 y9) | (go_at_call 49; refine (oO w1.heap.size w1.heap.size _ _ _ HI0.out HK0.out.1.size (by first | omega | (simp only [List.length_append, iL, List.length_nil, iV]; omega))).mono ?_; rintro e w2 ⟨rfl, hI, hK⟩; have HI1 := iC.mk hI; have HK1 := iC.mk (HK0.out.trans hK); clear hI hK z0 z1 z2 z3 z4 z5 z6 z7 z8 z9; obtain ⟨z0, z1, z2, z3, z4, z5, z6, z7, z8, z9, y0, y1, y2, y3, y4, y5, y6, y7, y8, y9⟩ := ten (iJ HK1.out.1 HBK.out); clear y0 y1 y2 y3 y4 y5 y6 y7 y8 y9) | (go_at_call 50; refine (lD w1.heap.size w1.heap.size _ _ _ HI1.out HK1.out.1.size (by first | omega | (simp only [List.length_append, iL, List.length_nil, iV]; omega))).mono ?_; rintro e w3 ⟨rfl, hI, hK⟩; have HI2 := iC.mk hI; have HK2 := iC.mk (HK1.out.trans hK); clear hI hK z0 z1 z2 z3 z4 z5 z6 z7 z8 z9; obtain ⟨z0, z1, z2, z3, z4, z5, z6, z7, z8, z9, y0, y1, y2, y3, y4, y5, y6, y7, y8, y9⟩ := ten (iJ HK2.out.1 HBK.out); clear y0 y1 y2 y3 y4 y5 y6 y7 y8 y9) | (go_at_call 51; refine (uZ w1.heap.size _ _ _ l3 w1 _ HI2.out HK2.out.1 (Kd.C_below H3.out HBW.out) (by first | omega | (simp only [List.length_append, iL, List.length_nil, iV]; omega))).mono ?_; rintro e w4 ⟨rfl, hI, hK⟩; have HI3 := iC.mk hI; have HK3 := iC.mk (HK2.out.trans hK); clear hI hK z0 z1 z2 z3 z4 z5 z6 z7 z8 z9; obtain ⟨z0, z1, z2, z3, z4, z5, z6, z7, z8, z9, y0, y1, y2, y3, y4, y5, y6, y7, y8, y9⟩ := ten (iJ HK3.out.1 HBK.out); clear y0 y1 y2 y3 y4 y5 y6 y7 y8 y9) | (go_at_call 52; refine (xQ w1.heap.size _ _ _ l4 w1 _ HI3.out HK3.out.1 (Kd.C_below H4.out HBW.out) (by first | omega | (simp only [List.length_append, iL, List.length_nil, iV]; omega))).mono ?_; rintro e w5 ⟨rfl, hI, hK⟩; have HI4 := iC.mk hI; have HK4 := iC.mk (HK3.out.trans hK); clear hI hK z0 z1 z2 z3 z4 z5 z6 z7 z8 z9; obtain ⟨z0, z1, z2, z3, z4, z5, z6, z7, z8, z9, y0, y1, y2, y3, y4, y5, y6, y7, y8, y9⟩ := ten (iJ HK4.out.1 HBK.out); clear y0 y1 y2 y3 y4 y5 y6 y7 y8 y9) | (go_at_call 55; refine (Tryd.Buffer_Len w1.heap.size w1.heap.size _ _ (HI4.out)).mono ?_; rintro e wl ⟨rfl, nl, rfl⟩; rw [Lib.byteCells_length, ← HLEN.out]))
    go_ret2
    exact ⟨_, rfl, Kd.R_nil _ _ _ _ _, by have hz := HBW.out; have hy := HK4.out.1; exact iG (iH hz hy) _⟩
  · rw [if_neg hbig]
    have hbigI : ¬ (60000 : Int) < (X.length : Int) := by omega
    clear hbig
    go_enter Tryd.func17, Tryd.ntmps17
    go_wp2_with (first | (go_at_call 19; refine (code_Sound.calls 1 a1 a2 A3 c3 l3 A4 c4 l4 a5 A6 c6 l6 a7 a8 A9 c9 l9 _ _ (Kd.C_below H3.out bel_) d3 (Kd.C_below H4.out bel_) d4 (Kd.C_below H6.out bel_) d6 (Kd.C_below H9.out bel_) d9 rfl).mono ?_; rintro e w1 ⟨rfl, hb1⟩; rw [HS.out]; have HBW := iC.mk (show Below w.heap.size w w1 from iH (iF (Below.refl _ _) _) hb1); have HBK := iC.mk (iJ hb1 (iM rfl)); clear hb1; have HI0 := iC.mk (Bf.fresh w1); have HK0 := iC.mk ((Kp.refl w1.heap.size w1.heap.size w1).alloc (Nat.le_refl _) (.cells #[.slice none 0 0, .int .i64 0, .int .i8 0] 91)); obtain ⟨z0, z1, z2, z3, z4, z5, z6, z7, z8, z9, y0, y1, y2, y3, y4, y5, y6, y7, y8, y9⟩ := ten (jD (o := (.cells #[.slice none 0 0, .int .i64 0, .int .i8 0] 91)) HBK.out); clear y0 y1 y2 y3 y4 y5 y6 y7 y8 y9) | (go_at_call 49; refine (oO w1.heap.size w1.heap.size _ _ _ HI0.out HK0.out.1.size (by first | omega | (simp only [List.length_append, iL, List.length_nil, iV]; omega))).mono ?_; rintro e w2 ⟨rfl, hI, hK⟩; have HI1 := iC.mk hI; have HK1 := iC.mk (HK0.out.trans hK); clear hI hK z0 z1 z2 z3 z4 z5 z6 z7 z8 z9; obtain ⟨z0, z1, z2, z3, z4, z5, z6, z7, z8, z9, y0, y1, y2, y3, y4, y5, y6, y7, y8, y9⟩ := ten (iJ HK1.out.1 HBK.out); clear y0 y1 y2 y3 y4 y5 y6 y7 y8 y9) | (go_at_call 50; refine (lD w1.heap.size w1.heap.size _ _ _ HI1.out HK1.out.1.size (by first | omega | (simp only [List.length_append, iL, List.length_nil, iV]; omega))).mono ?_; rintro e w3 ⟨rfl, hI, hK⟩; have HI2 := iC.mk hI; have HK2 := iC.mk (HK1.out.trans hK); clear hI hK z0 z1 z2 z3 z4 z5 z6 z7 z8 z9; obtain ⟨z0, z1, z2, z3, z4, z5, z6, z7, z8, z9, y0, y1, y2, y3, y4, y5, y6, y7, y8, y9⟩ := ten (iJ HK2.out.1 HBK.out); clear y0 y1 y2 y3 y4 y5 y6 y7 y8 y9) | (go_at_call 51; refine (uZ w1.heap.size _ _ _ l3 w1 _ HI2.out HK2.out.1 (Kd.C_below H3.out HBW.out) (by first | omega | (simp only [List.length_append, iL, List.length_nil, iV]; omega))).mono ?_; rintro e w4 ⟨rfl, hI, hK⟩; have HI3 := iC.mk hI; have HK3 := iC.mk (HK2.out.trans hK); clear hI hK z0 z1 z2 z3 z4 z5 z6 z7 z8 z9; obtain ⟨z0, z1, z2, z3, z4, z5, z6, z7, z8, z9, y0, y1, y2, y3, y4, y5, y6, y7, y8, y9⟩ := ten (iJ HK3.out.1 HBK.out); clear y0 y1 y2 y3 y4 y5 y6 y7 y8 y9) | (go_at_call 52; refine (xQ w1.heap.size _ _ _ l4 w1 _ HI3.out HK3.out.1 (Kd.C_below H4.out HBW.out) (by first | omega | (simp only [List.length_append, iL, List.length_nil, iV]; omega))).mono ?_; rintro e w5 ⟨rfl, hI, hK⟩; have HI4 := iC.mk hI; have HK4 := iC.mk (HK3.out.trans hK); clear hI hK z0 z1 z2 z3 z4 z5 z6 z7 z8 z9; obtain ⟨z0, z1, z2, z3, z4, z5, z6, z7, z8, z9, y0, y1, y2, y3, y4, y5, y6, y7, y8, y9⟩ := ten (iJ HK4.out.1 HBK.out); clear y0 y1 y2 y3 y4 y5 y6 y7 y8 y9) | (go_at_call 55; refine (Tryd.Buffer_Len w1.heap.size w1.heap.size _ _ (HI4.out)).mono ?_; rintro e wl ⟨rfl, nl, rfl⟩; rw [Lib.byteCells_length, ← HLEN.out]) | (go_at_call 56; refine (Tryd.Buffer_Bytes w1.heap.size w1.heap.size _ _ (HI4.out.drewN _)).mono ?_; rintro e wb ⟨v, rfl, hv, nb, rfl⟩; have HV := iC.mk hv; clear hv))
    go_ret2
    exact ⟨_, rfl, by rw [HX.out, VK]; exact qE HV.out HBW.out.size, by have hz := HBW.out; have hy := HK4.out.1; exact iG (iH hz hy) _⟩
set_option maxHeartbeats 8000000 in
set_option maxRecDepth 20000 in
theorem TW (hs : jJ ⟨2, a1, a2, l3, l4, ⟨a5, l6⟩, a7, a8, l9⟩ = true) : Calls Tryd.prog 17 #[.agg #[.int .u8 2, .int .u32 a1, .int .u32 a2, .slice A3 l3.length c3, .slice A4 l4.length c4, .int .u32 a5, .slice A6 l6.length c6, .int .i64 a7, .int .i64 a8, .slice A9 l9.length c9]] w (qA w (encR ⟨2, a1, a2, l3, l4, ⟨a5, l6⟩, a7, a8, l9⟩)) := by
  have H3 := iC.mk h3; have H4 := iC.mk h4; have H6 := iC.mk h6; have H9 := iC.mk h9
  clear h3 h4 h6 h9
  have HS := iC.mk hs
  have q3 : l3.length ≤ 6 := by
    have h := HS.out
    rw [QN, Bool.and_eq_true] at h
    exact oV _ h.1
  unfold encR
  rw [if_pos HS.out]
  have hm3 := kQ H3.out
  have hm6 := kQ H6.out
  obtain ⟨X, hX⟩ : ∃ X : List UInt8, X = recE ⟨2, a1, a2, l3, l4, ⟨a5, l6⟩, a7, a8, l9⟩ := ⟨_, rfl⟩
  rw [← hX]
  have HX := iC.mk hX
  have HLEN := iC.mk (show X.length = _ from congrArg List.length (hX.trans (VA _ _ _ _ _ _ _ _ _)))
  clear hs hX
  by_cases hbig : 60000 < X.length
  · rw [if_pos hbig]
    have hbigI : (60000 : Int) < (X.length : Int) := by omega
    clear hbig
    go_enter Tryd.func17, Tryd.ntmps17
    go_wp2_with (first | (go_at_call 19; refine (code_Sound.calls 2 a1 a2 A3 c3 l3 A4 c4 l4 a5 A6 c6 l6 a7 a8 A9 c9 l9 _ _ (Kd.C_below H3.out bel_) d3 (Kd.C_below H4.out bel_) d4 (Kd.C_below H6.out bel_) d6 (Kd.C_below H9.out bel_) d9 rfl).mono ?_; rintro e w1 ⟨rfl, hb1⟩; rw [HS.out]; have HBW := iC.mk (show Below w.heap.size w w1 from iH (iF (Below.refl _ _) _) hb1); have HBK := iC.mk (iJ hb1 (iM rfl)); clear hb1; have HI0 := iC.mk (Bf.fresh w1); have HK0 := iC.mk ((Kp.refl w1.heap.size w1.heap.size w1).alloc (Nat.le_refl _) (.cells #[.slice none 0 0, .int .i64 0, .int .i8 0] 91)); obtain ⟨z0, z1, z2, z3, z4, z5, z6, z7, z8, z9, y0, y1, y2, y3, y4, y5, y6, y7, y8, y9⟩ := ten (jD (o := (.cells #[.slice none 0 0, .int .i64 0, .int .i8 0] 91)) HBK.out); clear y0 y1 y2 y3 y4 y5 y6 y7 y8 y9) | (go_at_call 49; refine (oO w1.heap.size w1.heap.size _ _ _ HI0.out HK0.out.1.size (by first | omega | (simp only [List.length_append, iL, List.length_nil, iV]; omega))).mono ?_; rintro e w2 ⟨rfl, hI, hK⟩; have HI1 := iC.mk hI; have HK1 := iC.mk (HK0.out.trans hK); clear hI hK z0 z1 z2 z3 z4 z5 z6 z7 z8 z9; obtain ⟨z0, z1, z2, z3, z4, z5, z6, z7, z8, z9, y0, y1, y2, y3, y4, y5, y6, y7, y8, y9⟩ := ten (iJ HK1.out.1 HBK.out); clear y0 y1 y2 y3 y4 y5 y6 y7 y8 y9) | (go_at_call 50; refine (lD w1.heap.size w1.heap.size _ _ _ HI1.out HK1.out.1.size (by first | omega | (simp only [List.length_append, iL, List.length_nil, iV]; omega))).mono ?_; rintro e w3 ⟨rfl, hI, hK⟩; have HI2 := iC.mk hI; have HK2 := iC.mk (HK1.out.trans hK); clear hI hK z0 z1 z2 z3 z4 z5 z6 z7 z8 z9; obtain ⟨z0, z1, z2, z3, z4, z5, z6, z7, z8, z9, y0, y1, y2, y3, y4, y5, y6, y7, y8, y9⟩ := ten (iJ HK2.out.1 HBK.out); clear y0 y1 y2 y3 y4 y5 y6 y7 y8 y9) | (go_at_call 50; refine (lD w1.heap.size w1.heap.size _ _ _ HI2.out HK2.out.1.size (by first | omega | (simp only [List.length_append, iL, List.length_nil, iV]; omega))).mono ?_; rintro e w4 ⟨rfl, hI, hK⟩; have HI3 := iC.mk hI; have HK3 := iC.mk (HK2.out.trans hK); clear hI hK z0 z1 z2 z3 z4 z5 z6 z7 z8 z9; obtain ⟨z0, z1, z2, z3, z4, z5, z6, z7, z8, z9, y0, y1, y2, y3, y4, y5, y6, y7, y8, y9⟩ := ten (iJ HK3.out.1 HBK.out); clear y0 y1 y2 y3 y4 y5 y6 y7 y8 y9) | (go_at_call 51; refine (uZ w1.heap.size _ _ _ l3 w1 _ HI3.out HK3.out.1 (Kd.C_below H3.out HBW.out) (by first | omega | (simp only [List.length_append, iL, List.length_nil, iV]; omega))).mono ?_; rintro e w5 ⟨rfl, hI, hK⟩; have HI4 := iC.mk hI; have HK4 := iC.mk (HK3.out.trans hK); clear hI hK z0 z1 z2 z3 z4 z5 z6 z7 z8 z9; obtain ⟨z0, z1, z2, z3, z4, z5, z6, z7, z8, z9, y0, y1, y2, y3, y4, y5, y6, y7, y8, y9⟩ := ten (iJ HK4.out.1 HBK.out); clear y0 y1 y2 y3 y4 y5 y6 y7 y8 y9) | (go_at_call 55; refine (Tryd.Buffer_Len w1.heap.size w1.heap.size _ _ (HI4.out)).mono ?_; rintro e wl ⟨rfl, nl, rfl⟩; rw [Lib.byteCells_length, ← HLEN.out]))
    go_ret2
    exact ⟨_, rfl, Kd.R_nil _ _ _ _ _, by have hz := HBW.out; have hy := HK4.out.1; exact iG (iH hz hy) _⟩
  · rw [if_neg hbig]
    have hbigI : ¬ (60000 : Int) < (X.length : Int) := by omega
    clear hbig
    go_enter Tryd.func17, Tryd.ntmps17
    go_wp2_with (first | (go_at_call 19; refine (code_Sound.calls 2 a1 a2 A3 c3 l3 A4 c4 l4 a5 A6 c6 l6 a7 a8 A9 c9 l9 _ _ (Kd.C_below H3.out bel_) d3 (Kd.C_below H4.out bel_) d4 (Kd.C_below H6.out bel_) d6 (Kd.C_below H9.out bel_) d9 rfl).mono ?_; rintro e w1 ⟨rfl, hb1⟩; rw [HS.out]; have HBW := iC.mk (show Below w.heap.size w w1 from iH (iF (Below.refl _ _) _) hb1); have HBK := iC.mk (iJ hb1 (iM rfl)); clear hb1; have HI0 := iC.mk (Bf.fresh w1); have HK0 := iC.mk ((Kp.refl w1.heap.size w1.heap.size w1).alloc (Nat.le_refl _) (.cells #[.slice none 0 0, .int .i64 0, .int .i8 0] 91)); obtain ⟨z0, z1, z2, z3, z4, z5, z6, z7, z8, z9, y0, y1, y2, y3, y4, y5, y6, y7, y8, y9⟩ := ten (jD (o := (.cells #[.slice none 0 0, .int .i64 0, .int .i8 0] 91)) HBK.out); clear y0 y1 y2 y3 y4 y5 y6 y7 y8 y9) | (go_at_call 49; refine (oO w1.heap.size w1.heap.size _ _ _ HI0.out HK0.out.1.size (by first | omega | (simp only [List.length_append, iL, List.length_nil, iV]; omega))).mono ?_; rintro e w2 ⟨rfl, hI, hK⟩; have HI1 := iC.mk hI; have HK1 := iC.mk (HK0.out.trans hK); clear hI hK z0 z1 z2 z3 z4 z5 z6 z7 z8 z9; obtain ⟨z0, z1, z2, z3, z4, z5, z6, z7, z8, z9, y0, y1, y2, y3, y4, y5, y6, y7, y8, y9⟩ := ten (iJ HK1.out.1 HBK.out); clear y0 y1 y2 y3 y4 y5 y6 y7 y8 y9) | (go_at_call 50; refine (lD w1.heap.size w1.heap.size _ _ _ HI1.out HK1.out.1.size (by first | omega | (simp only [List.length_append, iL, List.length_nil, iV]; omega))).mono ?_; rintro e w3 ⟨rfl, hI, hK⟩; have HI2 := iC.mk hI; have HK2 := iC.mk (HK1.out.trans hK); clear hI hK z0 z1 z2 z3 z4 z5 z6 z7 z8 z9; obtain ⟨z0, z1, z2, z3, z4, z5, z6, z7, z8, z9, y0, y1, y2, y3, y4, y5, y6, y7, y8, y9⟩ := ten (iJ HK2.out.1 HBK.out); clear y0 y1 y2 y3 y4 y5 y6 y7 y8 y9) | (go_at_call 50; refine (lD w1.heap.size w1.heap.size _ _ _ HI2.out HK2.out.1.size (by first | omega | (simp only [List.length_append, iL, List.length_nil, iV]; omega))).mono ?_; rintro e w4 ⟨rfl, hI, hK⟩; have HI3 := iC.mk hI; have HK3 := iC.mk (HK2.out.trans hK); clear hI hK z0 z1 z2 z3 z4 z5 z6 z7 z8 z9; obtain ⟨z0, z1, z2, z3, z4, z5, z6, z7, z8, z9, y0, y1, y2, y3, y4, y5, y6, y7, y8, y9⟩ := ten (iJ HK3.out.1 HBK.out); clear y0 y1 y2 y3 y4 y5 y6 y7 y8 y9) | (go_at_call 51; refine (uZ w1.heap.size _ _ _ l3 w1 _ HI3.out HK3.out.1 (Kd.C_below H3.out HBW.out) (by first | omega | (simp only [List.length_append, iL, List.length_nil, iV]; omega))).mono ?_; rintro e w5 ⟨rfl, hI, hK⟩; have HI4 := iC.mk hI; have HK4 := iC.mk (HK3.out.trans hK); clear hI hK z0 z1 z2 z3 z4 z5 z6 z7 z8 z9; obtain ⟨z0, z1, z2, z3, z4, z5, z6, z7, z8, z9, y0, y1, y2, y3, y4, y5, y6, y7, y8, y9⟩ := ten (iJ HK4.out.1 HBK.out); clear y0 y1 y2 y3 y4 y5 y6 y7 y8 y9) | (go_at_call 55; refine (Tryd.Buffer_Len w1.heap.size w1.heap.size _ _ (HI4.out)).mono ?_; rintro e wl ⟨rfl, nl, rfl⟩; rw [Lib.byteCells_length, ← HLEN.out]) | (go_at_call 56; refine (Tryd.Buffer_Bytes w1.heap.size w1.heap.size _ _ (HI4.out.drewN _)).mono ?_; rintro e wb ⟨v, rfl, hv, nb, rfl⟩; have HV := iC.mk hv; clear hv))
    go_ret2
    exact ⟨_, rfl, by rw [HX.out, VA]; exact qE HV.out HBW.out.size, by have hz := HBW.out; have hy := HK4.out.1; exact iG (iH hz hy) _⟩
set_option maxHeartbeats 8000000 in
set_option maxRecDepth 20000 in
theorem TP (hs : jJ ⟨3, a1, a2, l3, l4, ⟨a5, l6⟩, a7, a8, l9⟩ = true) : Calls Tryd.prog 17 #[.agg #[.int .u8 3, .int .u32 a1, .int .u32 a2, .slice A3 l3.length c3, .slice A4 l4.length c4, .int .u32 a5, .slice A6 l6.length c6, .int .i64 a7, .int .i64 a8, .slice A9 l9.length c9]] w (qA w (encR ⟨3, a1, a2, l3, l4, ⟨a5, l6⟩, a7, a8, l9⟩)) := by
  have H3 := iC.mk h3; have H4 := iC.mk h4; have H6 := iC.mk h6; have H9 := iC.mk h9
  clear h3 h4 h6 h9
  have HS := iC.mk hs
  unfold encR
  rw [if_pos HS.out]
  have hm3 := kQ H3.out
  have hm6 := kQ H6.out
  obtain ⟨X, hX⟩ : ∃ X : List UInt8, X = recE ⟨3, a1, a2, l3, l4, ⟨a5, l6⟩, a7, a8, l9⟩ := ⟨_, rfl⟩
  rw [← hX]
  have HX := iC.mk hX
  have HLEN := iC.mk (show X.length = _ from congrArg List.length (hX.trans (VE _ _ _ _ _ _ _ _ _)))
  clear hs hX
  by_cases hbig : 60000 < X.length
  · rw [if_pos hbig]
    have hbigI : (60000 : Int) < (X.length : Int) := by omega
    clear hbig
    go_enter Tryd.func17, Tryd.ntmps17
    go_wp2_with (first | (go_at_call 19; refine (code_Sound.calls 3 a1 a2 A3 c3 l3 A4 c4 l4 a5 A6 c6 l6 a7 a8 A9 c9 l9 _ _ (Kd.C_below H3.out bel_) d3 (Kd.C_below H4.out bel_) d4 (Kd.C_below H6.out bel_) d6 (Kd.C_below H9.out bel_) d9 rfl).mono ?_; rintro e w1 ⟨rfl, hb1⟩; rw [HS.out]; have HBW := iC.mk (show Below w.heap.size w w1 from iH (iF (Below.refl _ _) _) hb1); have HBK := iC.mk (iJ hb1 (iM rfl)); clear hb1; have HI0 := iC.mk (Bf.fresh w1); have HK0 := iC.mk ((Kp.refl w1.heap.size w1.heap.size w1).alloc (Nat.le_refl _) (.cells #[.slice none 0 0, .int .i64 0, .int .i8 0] 91)); obtain ⟨z0, z1, z2, z3, z4, z5, z6, z7, z8, z9, y0, y1, y2, y3, y4, y5, y6, y7, y8, y9⟩ := ten (jD (o := (.cells #[.slice none 0 0, .int .i64 0, .int .i8 0] 91)) HBK.out); clear y0 y1 y2 y3 y4 y5 y6 y7 y8 y9) | (go_at_call 49; refine (oO w1.heap.size w1.heap.size _ _ _ HI0.out HK0.out.1.size (by first | omega | (simp only [List.length_append, iL, List.length_nil, iV]; omega))).mono ?_; rintro e w2 ⟨rfl, hI, hK⟩; have HI1 := iC.mk hI; have HK1 := iC.mk (HK0.out.trans hK); clear hI hK z0 z1 z2 z3 z4 z5 z6 z7 z8 z9; obtain ⟨z0, z1, z2, z3, z4, z5, z6, z7, z8, z9, y0, y1, y2, y3, y4, y5, y6, y7, y8, y9⟩ := ten (iJ HK1.out.1 HBK.out); clear y0 y1 y2 y3 y4 y5 y6 y7 y8 y9) | (go_at_call 50; refine (lD w1.heap.size w1.heap.size _ _ _ HI1.out HK1.out.1.size (by first | omega | (simp only [List.length_append, iL, List.length_nil, iV]; omega))).mono ?_; rintro e w3 ⟨rfl, hI, hK⟩; have HI2 := iC.mk hI; have HK2 := iC.mk (HK1.out.trans hK); clear hI hK z0 z1 z2 z3 z4 z5 z6 z7 z8 z9; obtain ⟨z0, z1, z2, z3, z4, z5, z6, z7, z8, z9, y0, y1, y2, y3, y4, y5, y6, y7, y8, y9⟩ := ten (iJ HK2.out.1 HBK.out); clear y0 y1 y2 y3 y4 y5 y6 y7 y8 y9) | (go_at_call 55; refine (Tryd.Buffer_Len w1.heap.size w1.heap.size _ _ (HI2.out)).mono ?_; rintro e wl ⟨rfl, nl, rfl⟩; rw [Lib.byteCells_length, ← HLEN.out]))
    go_ret2
    exact ⟨_, rfl, Kd.R_nil _ _ _ _ _, by have hz := HBW.out; have hy := HK2.out.1; exact iG (iH hz hy) _⟩
  · rw [if_neg hbig]
    have hbigI : ¬ (60000 : Int) < (X.length : Int) := by omega
    clear hbig
    go_enter Tryd.func17, Tryd.ntmps17
    go_wp2_with (first | (go_at_call 19; refine (code_Sound.calls 3 a1 a2 A3 c3 l3 A4 c4 l4 a5 A6 c6 l6 a7 a8 A9 c9 l9 _ _ (Kd.C_below H3.out bel_) d3 (Kd.C_below H4.out bel_) d4 (Kd.C_below H6.out bel_) d6 (Kd.C_below H9.out bel_) d9 rfl).mono ?_; rintro e w1 ⟨rfl, hb1⟩; rw [HS.out]; have HBW := iC.mk (show Below w.heap.size w w1 from iH (iF (Below.refl _ _) _) hb1); have HBK := iC.mk (iJ hb1 (iM rfl)); clear hb1; have HI0 := iC.mk (Bf.fresh w1); have HK0 := iC.mk ((Kp.refl w1.heap.size w1.heap.size w1).alloc (Nat.le_refl _) (.cells #[.slice none 0 0, .int .i64 0, .int .i8 0] 91)); obtain ⟨z0, z1, z2, z3, z4, z5, z6, z7, z8, z9, y0, y1, y2, y3, y4, y5, y6, y7, y8, y9⟩ := ten (jD (o := (.cells #[.slice none 0 0, .int .i64 0, .int .i8 0] 91)) HBK.out); clear y0 y1 y2 y3 y4 y5 y6 y7 y8 y9) | (go_at_call 49; refine (oO w1.heap.size w1.heap.size _ _ _ HI0.out HK0.out.1.size (by first | omega | (simp only [List.length_append, iL, List.length_nil, iV]; omega))).mono ?_; rintro e w2 ⟨rfl, hI, hK⟩; have HI1 := iC.mk hI; have HK1 := iC.mk (HK0.out.trans hK); clear hI hK z0 z1 z2 z3 z4 z5 z6 z7 z8 z9; obtain ⟨z0, z1, z2, z3, z4, z5, z6, z7, z8, z9, y0, y1, y2, y3, y4, y5, y6, y7, y8, y9⟩ := ten (iJ HK1.out.1 HBK.out); clear y0 y1 y2 y3 y4 y5 y6 y7 y8 y9) | (go_at_call 50; refine (lD w1.heap.size w1.heap.size _ _ _ HI1.out HK1.out.1.size (by first | omega | (simp only [List.length_append, iL, List.length_nil, iV]; omega))).mono ?_; rintro e w3 ⟨rfl, hI, hK⟩; have HI2 := iC.mk hI; have HK2 := iC.mk (HK1.out.trans hK); clear hI hK z0 z1 z2 z3 z4 z5 z6 z7 z8 z9; obtain ⟨z0, z1, z2, z3, z4, z5, z6, z7, z8, z9, y0, y1, y2, y3, y4, y5, y6, y7, y8, y9⟩ := ten (iJ HK2.out.1 HBK.out); clear y0 y1 y2 y3 y4 y5 y6 y7 y8 y9) | (go_at_call 55; refine (Tryd.Buffer_Len w1.heap.size w1.heap.size _ _ (HI2.out)).mono ?_; rintro e wl ⟨rfl, nl, rfl⟩; rw [Lib.byteCells_length, ← HLEN.out]) | (go_at_call 56; refine (Tryd.Buffer_Bytes w1.heap.size w1.heap.size _ _ (HI2.out.drewN _)).mono ?_; rintro e wb ⟨v, rfl, hv, nb, rfl⟩; have HV := iC.mk hv; clear hv))
    go_ret2
    exact ⟨_, rfl, by rw [HX.out, VE]; exact qE HV.out HBW.out.size, by have hz := HBW.out; have hy := HK2.out.1; exact iG (iH hz hy) _⟩
set_option maxHeartbeats 8000000 in
set_option maxRecDepth 20000 in
theorem UU (hs : jJ ⟨4, a1, a2, l3, l4, ⟨a5, l6⟩, a7, a8, l9⟩ = true) : Calls Tryd.prog 17 #[.agg #[.int .u8 4, .int .u32 a1, .int .u32 a2, .slice A3 l3.length c3, .slice A4 l4.length c4, .int .u32 a5, .slice A6 l6.length c6, .int .i64 a7, .int .i64 a8, .slice A9 l9.length c9]] w (qA w (encR ⟨4, a1, a2, l3, l4, ⟨a5, l6⟩, a7, a8, l9⟩)) := by
  have H3 := iC.mk h3; have H4 := iC.mk h4; have H6 := iC.mk h6; have H9 := iC.mk h9
  clear h3 h4 h6 h9
  have HS := iC.mk hs
  unfold encR
  rw [if_pos HS.out]
  have hm3 := kQ H3.out
  have hm6 := kQ H6.out
  obtain ⟨X, hX⟩ : ∃ X : List UInt8, X = recE ⟨4, a1, a2, l3, l4, ⟨a5, l6⟩, a7, a8, l9⟩ := ⟨_, rfl⟩
  rw [← hX]
  have HX := iC.mk hX
  have HLEN := iC.mk (show X.length = _ from congrArg List.length (hX.trans (V5 _ _ _ _ _ _ _ _ _)))
  clear hs hX
  by_cases hbig : 60000 < X.length
  · rw [if_pos hbig]
    have hbigI : (60000 : Int) < (X.length : Int) := by omega
    clear hbig
    go_enter Tryd.func17, Tryd.ntmps17
    go_wp2_with (first | (go_at_call 19; refine (code_Sound.calls 4 a1 a2 A3 c3 l3 A4 c4 l4 a5 A6 c6 l6 a7 a8 A9 c9 l9 _ _ (Kd.C_below H3.out bel_) d3 (Kd.C_below H4.out bel_) d4 (Kd.C_below H6.out bel_) d6 (Kd.C_below H9.out bel_) d9 rfl).mono ?_; rintro e w1 ⟨rfl, hb1⟩; rw [HS.out]; have HBW := iC.mk (show Below w.heap.size w w1 from iH (iF (Below.refl _ _) _) hb1); have HBK := iC.mk (iJ hb1 (iM rfl)); clear hb1; have HI0 := iC.mk (Bf.fresh w1); have HK0 := iC.mk ((Kp.refl w1.heap.size w1.heap.size w1).alloc (Nat.le_refl _) (.cells #[.slice none 0 0, .int .i64 0, .int .i8 0] 91)); obtain ⟨z0, z1, z2, z3, z4, z5, z6, z7, z8, z9, y0, y1, y2, y3, y4, y5, y6, y7, y8, y9⟩ := ten (jD (o := (.cells #[.slice none 0 0, .int .i64 0, .int .i8 0] 91)) HBK.out); clear y0 y1 y2 y3 y4 y5 y6 y7 y8 y9) | (go_at_call 49; refine (oO w1.heap.size w1.heap.size _ _ _ HI0.out HK0.out.1.size (by first | omega | (simp only [List.length_append, iL, List.length_nil, iV]; omega))).mono ?_; rintro e w2 ⟨rfl, hI, hK⟩; have HI1 := iC.mk hI; have HK1 := iC.mk (HK0.out.trans hK); clear hI hK z0 z1 z2 z3 z4 z5 z6 z7 z8 z9; obtain ⟨z0, z1, z2, z3, z4, z5, z6, z7, z8, z9, y0, y1, y2, y3, y4, y5, y6, y7, y8, y9⟩ := ten (iJ HK1.out.1 HBK.out); clear y0 y1 y2 y3 y4 y5 y6 y7 y8 y9) | (go_at_call 50; refine (lD w1.heap.size w1.heap.size _ _ _ HI1.out HK1.out.1.size (by first | omega | (simp only [List.length_append, iL, List.length_nil, iV]; omega))).mono ?_; rintro e w3 ⟨rfl, hI, hK⟩; have HI2 := iC.mk hI; have HK2 := iC.mk (HK1.out.trans hK); clear hI hK z0 z1 z2 z3 z4 z5 z6 z7 z8 z9; obtain ⟨z0, z1, z2, z3, z4, z5, z6, z7, z8, z9, y0, y1, y2, y3, y4, y5, y6, y7, y8, y9⟩ := ten (iJ HK2.out.1 HBK.out); clear y0 y1 y2 y3 y4 y5 y6 y7 y8 y9) | (go_at_call 55; refine (Tryd.Buffer_Len w1.heap.size w1.heap.size _ _ (HI2.out)).mono ?_; rintro e wl ⟨rfl, nl, rfl⟩; rw [Lib.byteCells_length, ← HLEN.out]))
    go_ret2
    exact ⟨_, rfl, Kd.R_nil _ _ _ _ _, by have hz := HBW.out; have hy := HK2.out.1; exact iG (iH hz hy) _⟩
  · rw [if_neg hbig]
    have hbigI : ¬ (60000 : Int) < (X.length : Int) := by omega
    clear hbig
    go_enter Tryd.func17, Tryd.ntmps17
    go_wp2_with (first | (go_at_call 19; refine (code_Sound.calls 4 a1 a2 A3 c3 l3 A4 c4 l4 a5 A6 c6 l6 a7 a8 A9 c9 l9 _ _ (Kd.C_below H3.out bel_) d3 (Kd.C_below H4.out bel_) d4 (Kd.C_below H6.out bel_) d6 (Kd.C_below H9.out bel_) d9 rfl).mono ?_; rintro e w1 ⟨rfl, hb1⟩; rw [HS.out]; have HBW := iC.mk (show Below w.heap.size w w1 from iH (iF (Below.refl _ _) _) hb1); have HBK := iC.mk (iJ hb1 (iM rfl)); clear hb1; have HI0 := iC.mk (Bf.fresh w1); have HK0 := iC.mk ((Kp.refl w1.heap.size w1.heap.size w1).alloc (Nat.le_refl _) (.cells #[.slice none 0 0, .int .i64 0, .int .i8 0] 91)); obtain ⟨z0, z1, z2, z3, z4, z5, z6, z7, z8, z9, y0, y1, y2, y3, y4, y5, y6, y7, y8, y9⟩ := ten (jD (o := (.cells #[.slice none 0 0, .int .i64 0, .int .i8 0] 91)) HBK.out); clear y0 y1 y2 y3 y4 y5 y6 y7 y8 y9) | (go_at_call 49; refine (oO w1.heap.size w1.heap.size _ _ _ HI0.out HK0.out.1.size (by first | omega | (simp only [List.length_append, iL, List.length_nil, iV]; omega))).mono ?_; rintro e w2 ⟨rfl, hI, hK⟩; have HI1 := iC.mk hI; have HK1 := iC.mk (HK0.out.trans hK); clear hI hK z0 z1 z2 z3 z4 z5 z6 z7 z8 z9; obtain ⟨z0, z1, z2, z3, z4, z5, z6, z7, z8, z9, y0, y1, y2, y3, y4, y5, y6, y7, y8, y9⟩ := ten (iJ HK1.out.1 HBK.out); clear y0 y1 y2 y3 y4 y5 y6 y7 y8 y9) | (go_at_call 50; refine (lD w1.heap.size w1.heap.size _ _ _ HI1.out HK1.out.1.size (by first | omega | (simp only [List.length_append, iL, List.length_nil, iV]; omega))).mono ?_; rintro e w3 ⟨rfl, hI, hK⟩; have HI2 := iC.mk hI; have HK2 := iC.mk (HK1.out.trans hK); clear hI hK z0 z1 z2 z3 z4 z5 z6 z7 z8 z9; obtain ⟨z0, z1, z2, z3, z4, z5, z6, z7, z8, z9, y0, y1, y2, y3, y4, y5, y6, y7, y8, y9⟩ := ten (iJ HK2.out.1 HBK.out); clear y0 y1 y2 y3 y4 y5 y6 y7 y8 y9) | (go_at_call 55; refine (Tryd.Buffer_Len w1.heap.size w1.heap.size _ _ (HI2.out)).mono ?_; rintro e wl ⟨rfl, nl, rfl⟩; rw [Lib.byteCells_length, ← HLEN.out]) | (go_at_call 56; refine (Tryd.Buffer_Bytes w1.heap.size w1.heap.size _ _ (HI2.out.drewN _)).mono ?_; rintro e wb ⟨v, rfl, hv, nb, rfl⟩; have HV := iC.mk hv; clear hv))
    go_ret2
    exact ⟨_, rfl, by rw [HX.out, V5]; exact qE HV.out HBW.out.size, by have hz := HBW.out; have hy := HK2.out.1; exact iG (iH hz hy) _⟩
set_option maxHeartbeats 8000000 in
set_option maxRecDepth 20000 in
theorem TS (hs : jJ ⟨5, a1, a2, l3, l4, ⟨a5, l6⟩, a7, a8, l9⟩ = true) : Calls Tryd.prog 17 #[.agg #[.int .u8 5, .int .u32 a1, .int .u32 a2, .slice A3 l3.length c3, .slice A4 l4.length c4, .int .u32 a5, .slice A6 l6.length c6, .int .i64 a7, .int .i64 a8, .slice A9 l9.length c9]] w (qA w (encR ⟨5, a1, a2, l3, l4, ⟨a5, l6⟩, a7, a8, l9⟩)) := by
  have H3 := iC.mk h3; have H4 := iC.mk h4; have H6 := iC.mk h6; have H9 := iC.mk h9
  clear h3 h4 h6 h9
  have HS := iC.mk hs
  unfold encR
  rw [if_pos HS.out]
  have hm3 := kQ H3.out
  have hm6 := kQ H6.out
  obtain ⟨X, hX⟩ : ∃ X : List UInt8, X = recE ⟨5, a1, a2, l3, l4, ⟨a5, l6⟩, a7, a8, l9⟩ := ⟨_, rfl⟩
  rw [← hX]
  have HX := iC.mk hX
  have HLEN := iC.mk (show X.length = _ from congrArg List.length (hX.trans (VF _ _ _ _ _ _ _ _ _)))
  clear hs hX
  by_cases hbig : 60000 < X.length
  · rw [if_pos hbig]
    have hbigI : (60000 : Int) < (X.length : Int) := by omega
    clear hbig
    go_enter Tryd.func17, Tryd.ntmps17
    go_wp2_with (first | (go_at_call 19; refine (code_Sound.calls 5 a1 a2 A3 c3 l3 A4 c4 l4 a5 A6 c6 l6 a7 a8 A9 c9 l9 _ _ (Kd.C_below H3.out bel_) d3 (Kd.C_below H4.out bel_) d4 (Kd.C_below H6.out bel_) d6 (Kd.C_below H9.out bel_) d9 rfl).mono ?_; rintro e w1 ⟨rfl, hb1⟩; rw [HS.out]; have HBW := iC.mk (show Below w.heap.size w w1 from iH (iF (Below.refl _ _) _) hb1); have HBK := iC.mk (iJ hb1 (iM rfl)); clear hb1; have HI0 := iC.mk (Bf.fresh w1); have HK0 := iC.mk ((Kp.refl w1.heap.size w1.heap.size w1).alloc (Nat.le_refl _) (.cells #[.slice none 0 0, .int .i64 0, .int .i8 0] 91)); obtain ⟨z0, z1, z2, z3, z4, z5, z6, z7, z8, z9, y0, y1, y2, y3, y4, y5, y6, y7, y8, y9⟩ := ten (jD (o := (.cells #[.slice none 0 0, .int .i64 0, .int .i8 0] 91)) HBK.out); clear y0 y1 y2 y3 y4 y5 y6 y7 y8 y9) | (go_at_call 49; refine (oO w1.heap.size w1.heap.size _ _ _ HI0.out HK0.out.1.size (by first | omega | (simp only [List.length_append, iL, List.length_nil, iV]; omega))).mono ?_; rintro e w2 ⟨rfl, hI, hK⟩; have HI1 := iC.mk hI; have HK1 := iC.mk (HK0.out.trans hK); clear hI hK z0 z1 z2 z3 z4 z5 z6 z7 z8 z9; obtain ⟨z0, z1, z2, z3, z4, z5, z6, z7, z8, z9, y0, y1, y2, y3, y4, y5, y6, y7, y8, y9⟩ := ten (iJ HK1.out.1 HBK.out); clear y0 y1 y2 y3 y4 y5 y6 y7 y8 y9) | (go_at_call 50; refine (lD w1.heap.size w1.heap.size _ _ _ HI1.out HK1.out.1.size (by first | omega | (simp only [List.length_append, iL, List.length_nil, iV]; omega))).mono ?_; rintro e w3 ⟨rfl, hI, hK⟩; have HI2 := iC.mk hI; have HK2 := iC.mk (HK1.out.trans hK); clear hI hK z0 z1 z2 z3 z4 z5 z6 z7 z8 z9; obtain ⟨z0, z1, z2, z3, z4, z5, z6, z7, z8, z9, y0, y1, y2, y3, y4, y5, y6, y7, y8, y9⟩ := ten (iJ HK2.out.1 HBK.out); clear y0 y1 y2 y3 y4 y5 y6 y7 y8 y9) | (go_at_call 55; refine (Tryd.Buffer_Len w1.heap.size w1.heap.size _ _ (HI2.out)).mono ?_; rintro e wl ⟨rfl, nl, rfl⟩; rw [Lib.byteCells_length, ← HLEN.out]))
    go_ret2
    exact ⟨_, rfl, Kd.R_nil _ _ _ _ _, by have hz := HBW.out; have hy := HK2.out.1; exact iG (iH hz hy) _⟩
  · rw [if_neg hbig]
    have hbigI : ¬ (60000 : Int) < (X.length : Int) := by omega
    clear hbig
    go_enter Tryd.func17, Tryd.ntmps17
    go_wp2_with (first | (go_at_call 19; refine (code_Sound.calls 5 a1 a2 A3 c3 l3 A4 c4 l4 a5 A6 c6 l6 a7 a8 A9 c9 l9 _ _ (Kd.C_below H3.out bel_) d3 (Kd.C_below H4.out bel_) d4 (Kd.C_below H6.out bel_) d6 (Kd.C_below H9.out bel_) d9 rfl).mono ?_; rintro e w1 ⟨rfl, hb1⟩; rw [HS.out]; have HBW := iC.mk (show Below w.heap.size w w1 from iH (iF (Below.refl _ _) _) hb1); have HBK := iC.mk (iJ hb1 (iM rfl)); clear hb1; have HI0 := iC.mk (Bf.fresh w1); have HK0 := iC.mk ((Kp.refl w1.heap.size w1.heap.size w1).alloc (Nat.le_refl _) (.cells #[.slice none 0 0, .int .i64 0, .int .i8 0] 91)); obtain ⟨z0, z1, z2, z3, z4, z5, z6, z7, z8, z9, y0, y1, y2, y3, y4, y5, y6, y7, y8, y9⟩ := ten (jD (o := (.cells #[.slice none 0 0, .int .i64 0, .int .i8 0] 91)) HBK.out); clear y0 y1 y2 y3 y4 y5 y6 y7 y8 y9) | (go_at_call 49; refine (oO w1.heap.size w1.heap.size _ _ _ HI0.out HK0.out.1.size (by first | omega | (simp only [List.length_append, iL, List.length_nil, iV]; omega))).mono ?_; rintro e w2 ⟨rfl, hI, hK⟩; have HI1 := iC.mk hI; have HK1 := iC.mk (HK0.out.trans hK); clear hI hK z0 z1 z2 z3 z4 z5 z6 z7 z8 z9; obtain ⟨z0, z1, z2, z3, z4, z5, z6, z7, z8, z9, y0, y1, y2, y3, y4, y5, y6, y7, y8, y9⟩ := ten (iJ HK1.out.1 HBK.out); clear y0 y1 y2 y3 y4 y5 y6 y7 y8 y9) | (go_at_call 50; refine (lD w1.heap.size w1.heap.size _ _ _ HI1.out HK1.out.1.size (by first | omega | (simp only [List.length_append, iL, List.length_nil, iV]; omega))).mono ?_; rintro e w3 ⟨rfl, hI, hK⟩; have HI2 := iC.mk hI; have HK2 := iC.mk (HK1.out.trans hK); clear hI hK z0 z1 z2 z3 z4 z5 z6 z7 z8 z9; obtain ⟨z0, z1, z2, z3, z4, z5, z6, z7, z8, z9, y0, y1, y2, y3, y4, y5, y6, y7, y8, y9⟩ := ten (iJ HK2.out.1 HBK.out); clear y0 y1 y2 y3 y4 y5 y6 y7 y8 y9) | (go_at_call 55; refine (Tryd.Buffer_Len w1.heap.size w1.heap.size _ _ (HI2.out)).mono ?_; rintro e wl ⟨rfl, nl, rfl⟩; rw [Lib.byteCells_length, ← HLEN.out]) | (go_at_call 56; refine (Tryd.Buffer_Bytes w1.heap.size w1.heap.size _ _ (HI2.out.drewN _)).mono ?_; rintro e wb ⟨v, rfl, hv, nb, rfl⟩; have HV := iC.mk hv; clear hv))
    go_ret2
    exact ⟨_, rfl, by rw [HX.out, VF]; exact qE HV.out HBW.out.size, by have hz := HBW.out; have hy := HK2.out.1; exact iG (iH hz hy) _⟩
set_option maxHeartbeats 8000000 in
set_option maxRecDepth 20000 in
theorem TT (hs : jJ ⟨7, a1, a2, l3, l4, ⟨a5, l6⟩, a7, a8, l9⟩ = true) : Calls Tryd.prog 17 #[.agg #[.int .u8 7, .int .u32 a1, .int .u32 a2, .slice A3 l3.length c3, .slice A4 l4.length c4, .int .u32 a5, .slice A6 l6.length c6, .int .i64 a7, .int .i64 a8, .slice A9 l9.length c9]] w (qA w (encR ⟨7, a1, a2, l3, l4, ⟨a5, l6⟩, a7, a8, l9⟩)) := by
  have H3 := iC.mk h3; have H4 := iC.mk h4; have H6 := iC.mk h6; have H9 := iC.mk h9
  clear h3 h4 h6 h9
  have HS := iC.mk hs
  have q9 : (jS l9).length ≤ 25040004 := by
    have h := HS.out
    rw [Q4, Bool.and_eq_true, Bool.and_eq_true, Bool.and_eq_true, Bool.and_eq_true, Bool.and_eq_true, Bool.and_eq_true] at h
    exact uC _ h.1.1.1.1.1.1 (by have := of_decide_eq_true h.1.1.1.1.1.2; omega)
  unfold encR
  rw [if_pos HS.out]
  have hm3 := kQ H3.out
  have hm6 := kQ H6.out
  obtain ⟨X, hX⟩ : ∃ X : List UInt8, X = recE ⟨7, a1, a2, l3, l4, ⟨a5, l6⟩, a7, a8, l9⟩ := ⟨_, rfl⟩
  rw [← hX]
  have HX := iC.mk hX
  have HLEN := iC.mk (show X.length = _ from congrArg List.length (hX.trans (WF _ _ _ _ _ _ _ _ _)))
  clear hs hX
  by_cases hbig : 60000 < X.length
  · rw [if_pos hbig]
    have hbigI : (60000 : Int) < (X.length : Int) := by omega
    clear hbig
    go_enter Tryd.func17, Tryd.ntmps17
    go_wp2_with (first | (go_at_call 19; refine (code_Sound.calls 7 a1 a2 A3 c3 l3 A4 c4 l4 a5 A6 c6 l6 a7 a8 A9 c9 l9 _ _ (Kd.C_below H3.out bel_) d3 (Kd.C_below H4.out bel_) d4 (Kd.C_below H6.out bel_) d6 (Kd.C_below H9.out bel_) d9 rfl).mono ?_; rintro e w1 ⟨rfl, hb1⟩; rw [HS.out]; have HBW := iC.mk (show Below w.heap.size w w1 from iH (iF (Below.refl _ _) _) hb1); have HBK := iC.mk (iJ hb1 (iM rfl)); clear hb1; have HI0 := iC.mk (Bf.fresh w1); have HK0 := iC.mk ((Kp.refl w1.heap.size w1.heap.size w1).alloc (Nat.le_refl _) (.cells #[.slice none 0 0, .int .i64 0, .int .i8 0] 91)); obtain ⟨z0, z1, z2, z3, z4, z5, z6, z7, z8, z9, y0, y1, y2, y3, y4, y5, y6, y7, y8, y9⟩ := ten (jD (o := (.cells #[.slice none 0 0, .int .i64 0, .int .i8 0] 91)) HBK.out); clear y0 y1 y2 y3 y4 y5 y6 y7 y8 y9) | (go_at_call 49; refine (oO w1.heap.size w1.heap.size _ _ _ HI0.out HK0.out.1.size (by first | omega | (simp only [List.length_append, iL, List.length_nil, iV]; omega))).mono ?_; rintro e w2 ⟨rfl, hI, hK⟩; have HI1 := iC.mk hI; have HK1 := iC.mk (HK0.out.trans hK); clear hI hK z0 z1 z2 z3 z4 z5 z6 z7 z8 z9; obtain ⟨z0, z1, z2, z3, z4, z5, z6, z7, z8, z9, y0, y1, y2, y3, y4, y5, y6, y7, y8, y9⟩ := ten (iJ HK1.out.1 HBK.out); clear y0 y1 y2 y3 y4 y5 y6 y7 y8 y9) | (go_at_call 50; refine (lD w1.heap.size w1.heap.size _ _ _ HI1.out HK1.out.1.size (by first | omega | (simp only [List.length_append, iL, List.length_nil, iV]; omega))).mono ?_; rintro e w3 ⟨rfl, hI, hK⟩; have HI2 := iC.mk hI; have HK2 := iC.mk (HK1.out.trans hK); clear hI hK z0 z1 z2 z3 z4 z5 z6 z7 z8 z9; obtain ⟨z0, z1, z2, z3, z4, z5, z6, z7, z8, z9, y0, y1, y2, y3, y4, y5, y6, y7, y8, y9⟩ := ten (iJ HK2.out.1 HBK.out); clear y0 y1 y2 y3 y4 y5 y6 y7 y8 y9) | (go_at_call 53; refine (nX w1.heap.size w1.heap.size _ _ _ HI2.out HK2.out.1.size (by first | omega | (simp only [List.length_append, iL, List.length_nil, iV]; omega))).mono ?_; rintro e w4 ⟨rfl, hI, hK⟩; have HI3 := iC.mk hI; have HK3 := iC.mk (HK2.out.trans hK); clear hI hK z0 z1 z2 z3 z4 z5 z6 z7 z8 z9; obtain ⟨z0, z1, z2, z3, z4, z5, z6, z7, z8, z9, y0, y1, y2, y3, y4, y5, y6, y7, y8, y9⟩ := ten (iJ HK3.out.1 HBK.out); clear y0 y1 y2 y3 y4 y5 y6 y7 y8 y9) | (go_at_call 53; refine (nX w1.heap.size w1.heap.size _ _ _ HI3.out HK3.out.1.size (by first | omega | (simp only [List.length_append, iL, List.length_nil, iV]; omega))).mono ?_; rintro e w5 ⟨rfl, hI, hK⟩; have HI4 := iC.mk hI; have HK4 := iC.mk (HK3.out.trans hK); clear hI hK z0 z1 z2 z3 z4 z5 z6 z7 z8 z9; obtain ⟨z0, z1, z2, z3, z4, z5, z6, z7, z8, z9, y0, y1, y2, y3, y4, y5, y6, y7, y8, y9⟩ := ten (iJ HK4.out.1 HBK.out); clear y0 y1 y2 y3 y4 y5 y6 y7 y8 y9) | (go_at_call 54; refine (yD w1.heap.size _ _ _ l9 w1 _ HI4.out HK4.out.1 (Kd.C_below H9.out HBW.out) (by first | omega | (simp only [List.length_append, iL, List.length_nil, iV]; omega))).mono ?_; rintro e w6 ⟨rfl, hI, hK⟩; have HI5 := iC.mk hI; have HK5 := iC.mk (HK4.out.trans hK); clear hI hK z0 z1 z2 z3 z4 z5 z6 z7 z8 z9; obtain ⟨z0, z1, z2, z3, z4, z5, z6, z7, z8, z9, y0, y1, y2, y3, y4, y5, y6, y7, y8, y9⟩ := ten (iJ HK5.out.1 HBK.out); clear y0 y1 y2 y3 y4 y5 y6 y7 y8 y9) | (go_at_call 55; refine (Tryd.Buffer_Len w1.heap.size w1.heap.size _ _ (HI5.out)).mono ?_; rintro e wl ⟨rfl, nl, rfl⟩; rw [Lib.byteCells_length, ← HLEN.out]))
    go_ret2
    exact ⟨_, rfl, Kd.R_nil _ _ _ _ _, by have hz := HBW.out; have hy := HK5.out.1; exact iG (iH hz hy) _⟩
  · rw [if_neg hbig]
    have hbigI : ¬ (60000 : Int) < (X.length : Int) := by omega
    clear hbig
    go_enter Tryd.func17, Tryd.ntmps17
    go_wp2_with (first | (go_at_call 19; refine (code_Sound.calls 7 a1 a2 A3 c3 l3 A4 c4 l4 a5 A6 c6 l6 a7 a8 A9 c9 l9 _ _ (Kd.C_below H3.out bel_) d3 (Kd.C_below H4.out bel_) d4 (Kd.C_below H6.out bel_) d6 (Kd.C_below H9.out bel_) d9 rfl).mono ?_; rintro e w1 ⟨rfl, hb1⟩; rw [HS.out]; have HBW := iC.mk (show Below w.heap.size w w1 from iH (iF (Below.refl _ _) _) hb1); have HBK := iC.mk (iJ hb1 (iM rfl)); clear hb1; have HI0 := iC.mk (Bf.fresh w1); have HK0 := iC.mk ((Kp.refl w1.heap.size w1.heap.size w1).alloc (Nat.le_refl _) (.cells #[.slice none 0 0, .int .i64 0, .int .i8 0] 91)); obtain ⟨z0, z1, z2, z3, z4, z5, z6, z7, z8, z9, y0, y1, y2, y3, y4, y5, y6, y7, y8, y9⟩ := ten (jD (o := (.cells #[.slice none 0 0, .int .i64 0, .int .i8 0] 91)) HBK.out); clear y0 y1 y2 y3 y4 y5 y6 y7 y8 y9) | (go_at_call 49; refine (oO w1.heap.size w1.heap.size _ _ _ HI0.out HK0.out.1.size (by first | omega | (simp only [List.length_append, iL, List.length_nil, iV]; omega))).mono ?_; rintro e w2 ⟨rfl, hI, hK⟩; have HI1 := iC.mk hI; have HK1 := iC.mk (HK0.out.trans hK); clear hI hK z0 z1 z2 z3 z4 z5 z6 z7 z8 z9; obtain ⟨z0, z1, z2, z3, z4, z5, z6, z7, z8, z9, y0, y1, y2, y3, y4, y5, y6, y7, y8, y9⟩ := ten (iJ HK1.out.1 HBK.out); clear y0 y1 y2 y3 y4 y5 y6 y7 y8 y9) | (go_at_call 50; refine (lD w1.heap.size w1.heap.size _ _ _ HI1.out HK1.out.1.size (by first | omega | (simp only [List.length_append, iL, List.length_nil, iV]; omega))).mono ?_; rintro e w3 ⟨rfl, hI, hK⟩; have HI2 := iC.mk hI; have HK2 := iC.mk (HK1.out.trans hK); clear hI hK z0 z1 z2 z3 z4 z5 z6 z7 z8 z9; obtain ⟨z0, z1, z2, z3, z4, z5, z6, z7, z8, z9, y0, y1, y2, y3, y4, y5, y6, y7, y8, y9⟩ := ten (iJ HK2.out.1 HBK.out); clear y0 y1 y2 y3 y4 y5 y6 y7 y8 y9) | (go_at_call 53; refine (nX w1.heap.size w1.heap.size _ _ _ HI2.out HK2.out.1.size (by first | omega | (simp only [List.length_append, iL, List.length_nil, iV]; omega))).mono ?_; rintro e w4 ⟨rfl, hI, hK⟩; have HI3 := iC.mk hI; have HK3 := iC.mk (HK2.out.trans hK); clear hI hK z0 z1 z2 z3 z4 z5 z6 z7 z8 z9; obtain ⟨z0, z1, z2, z3, z4, z5, z6, z7, z8, z9, y0, y1, y2, y3, y4, y5, y6, y7, y8, y9⟩ := ten (iJ HK3.out.1 HBK.out); clear y0 y1 y2 y3 y4 y5 y6 y7 y8 y9) | (go_at_call 53; refine (nX w1.heap.size w1.heap.size _ _ _ HI3.out HK3.out.1.size (by first | omega | (simp only [List.length_append, iL, List.length_nil, iV]; omega))).mono ?_; rintro e w5 ⟨rfl, hI, hK⟩; have HI4 := iC.mk hI; have HK4 := iC.mk (HK3.out.trans hK); clear hI hK z0 z1 z2 z3 z4 z5 z6 z7 z8 z9; obtain ⟨z0, z1, z2, z3, z4, z5, z6, z7, z8, z9, y0, y1, y2, y3, y4, y5, y6, y7, y8, y9⟩ := ten (iJ HK4.out.1 HBK.out); clear y0 y1 y2 y3 y4 y5 y6 y7 y8 y9) | (go_at_call 54; refine (yD w1.heap.size _ _ _ l9 w1 _ HI4.out HK4.out.1 (Kd.C_below H9.out HBW.out) (by first | omega | (simp only [List.length_append, iL, List.length_nil, iV]; omega))).mono ?_; rintro e w6 ⟨rfl, hI, hK⟩; have HI5 := iC.mk hI; have HK5 := iC.mk (HK4.out.trans hK); clear hI hK z0 z1 z2 z3 z4 z5 z6 z7 z8 z9; obtain ⟨z0, z1, z2, z3, z4, z5, z6, z7, z8, z9, y0, y1, y2, y3, y4, y5, y6, y7, y8, y9⟩ := ten (iJ HK5.out.1 HBK.out); clear y0 y1 y2 y3 y4 y5 y6 y7 y8 y9) | (go_at_call 55; refine (Tryd.Buffer_Len w1.heap.size w1.heap.size _ _ (HI5.out)).mono ?_; rintro e wl ⟨rfl, nl, rfl⟩; rw [Lib.byteCells_length, ← HLEN.out]) | (go_at_call 56; refine (Tryd.Buffer_Bytes w1.heap.size w1.heap.size _ _ (HI5.out.drewN _)).mono ?_; rintro e wb ⟨v, rfl, hv, nb, rfl⟩; have HV := iC.mk hv; clear hv))
    go_ret2
    exact ⟨_, rfl, by rw [HX.out, WF]; exact qE HV.out HBW.out.size, by have hz := HBW.out; have hy := HK5.out.1; exact iG (iH hz hy) _⟩
set_option maxHeartbeats 8000000 in
set_option maxRecDepth 20000 in
theorem TV (hs : jJ ⟨6, a1, a2, l3, l4, ⟨a5, l6⟩, a7, a8, l9⟩ = true) : Calls Tryd.prog 17 #[.agg #[.int .u8 6, .int .u32 a1, .int .u32 a2, .slice A3 l3.length c3, .slice A4 l4.length c4, .int .u32 a5, .slice A6 l6.length c6, .int .i64 a7, .int .i64 a8, .slice A9 l9.length c9]] w (qA w (encR ⟨6, a1, a2, l3, l4, ⟨a5, l6⟩, a7, a8, l9⟩)) := by
  have H3 := iC.mk h3; have H4 := iC.mk h4; have H6 := iC.mk h6; have H9 := iC.mk h9
  clear h3 h4 h6 h9
  have HS := iC.mk hs
  have q6 : l6.length ≤ 40 := by
    have h := HS.out
    rw [PL, Bool.and_eq_true, Bool.and_eq_true, Bool.and_eq_true] at h
    have := of_decide_eq_true h.1.1.2
    omega
  unfold encR
  rw [if_pos HS.out]
  have hm3 := kQ H3.out
  have hm6 := kQ H6.out
  obtain ⟨X, hX⟩ : ∃ X : List UInt8, X = recE ⟨6, a1, a2, l3, l4, ⟨a5, l6⟩, a7, a8, l9⟩ := ⟨_, rfl⟩
  rw [← hX]
  have HX := iC.mk hX
  have HLEN := iC.mk (show X.length = _ from congrArg List.length (hX.trans (VY _ _ _ _ _ _ _ _ _)))
  clear hs hX
  by_cases hbig : 60000 < X.length
  · rw [if_pos hbig]
    have hbigI : (60000 : Int) < (X.length : Int) := by omega
    clear hbig
    go_enter Tryd.func17, Tryd.ntmps17
    go_wp2_with (first | (go_at_call 19; refine (code_Sound.calls 6 a1 a2 A3 c3 l3 A4 c4 l4 a5 A6 c6 l6 a7 a8 A9 c9 l9 _ _ (Kd.C_below H3.out bel_) d3 (Kd.C_below H4.out bel_) d4 (Kd.C_below H6.out bel_) d6 (Kd.C_below H9.out bel_) d9 rfl).mono ?_; rintro e w1 ⟨rfl, hb1⟩; rw [HS.out]; have HBW := iC.mk (show Below w.heap.size w w1 from iH (iF (Below.refl _ _) _) hb1); have HBK := iC.mk (iJ hb1 (iM rfl)); clear hb1; have HI0 := iC.mk (Bf.fresh w1); have HK0 := iC.mk ((Kp.refl w1.heap.size w1.heap.size w1).alloc (Nat.le_refl _) (.cells #[.slice none 0 0, .int .i64 0, .int .i8 0] 91)); obtain ⟨z0, z1, z2, z3, z4, z5, z6, z7, z8, z9, y0, y1, y2, y3, y4, y5, y6, y7, y8, y9⟩ := ten (jD (o := (.cells #[.slice none 0 0, .int .i64 0, .int .i8 0] 91)) HBK.out); clear y0 y1 y2 y3 y4 y5 y6 y7 y8 y9) | (go_at_call 49; refine (oO w1.heap.size w1.heap.size _ _ _ HI0.out HK0.out.1.size (by first | omega | (simp only [List.length_append, iL, List.length_nil, iV]; omega))).mono ?_; rintro e w2 ⟨rfl, hI, hK⟩; have HI1 := iC.mk hI; have HK1 := iC.mk (HK0.out.trans hK); clear hI hK z0 z1 z2 z3 z4 z5 z6 z7 z8 z9; obtain ⟨z0, z1, z2, z3, z4, z5, z6, z7, z8, z9, y0, y1, y2, y3, y4, y5, y6, y7, y8, y9⟩ := ten (iJ HK1.out.1 HBK.out); clear y0 y1 y2 y3 y4 y5 y6 y7 y8 y9) | (go_at_call 50; refine (lD w1.heap.size w1.heap.size _ _ _ HI1.out HK1.out.1.size (by first | omega | (simp only [List.length_append, iL, List.length_nil, iV]; omega))).mono ?_; rintro e w3 ⟨rfl, hI, hK⟩; have HI2 := iC.mk hI; have HK2 := iC.mk (HK1.out.trans hK); clear hI hK z0 z1 z2 z3 z4 z5 z6 z7 z8 z9; obtain ⟨z0, z1, z2, z3, z4, z5, z6, z7, z8, z9, y0, y1, y2, y3, y4, y5, y6, y7, y8, y9⟩ := ten (iJ HK2.out.1 HBK.out); clear y0 y1 y2 y3 y4 y5 y6 y7 y8 y9) | (go_at_call 50; refine (lD w1.heap.size w1.heap.size _ _ _ HI2.out HK2.out.1.size (by first | omega | (simp only [List.length_append, iL, List.length_nil, iV]; omega))).mono ?_; rintro e w4 ⟨rfl, hI, hK⟩; have HI3 := iC.mk hI; have HK3 := iC.mk (HK2.out.trans hK); clear hI hK z0 z1 z2 z3 z4 z5 z6 z7 z8 z9; obtain ⟨z0, z1, z2, z3, z4, z5, z6, z7, z8, z9, y0, y1, y2, y3, y4, y5, y6, y7, y8, y9⟩ := ten (iJ HK3.out.1 HBK.out); clear y0 y1 y2 y3 y4 y5 y6 y7 y8 y9) | (go_at_call 53; refine (pV w1.heap.size w1.heap.size _ _ _ HI3.out HK3.out.1.size (by first | omega | (simp only [List.length_append, iL, List.length_nil, iV]; omega))).mono ?_; rintro e w5 ⟨rfl, hI, hK⟩; have HI4 := iC.mk hI; have HK4 := iC.mk (HK3.out.trans hK); clear hI hK z0 z1 z2 z3 z4 z5 z6 z7 z8 z9; obtain ⟨z0, z1, z2, z3, z4, z5, z6, z7, z8, z9, y0, y1, y2, y3, y4, y5, y6, y7, y8, y9⟩ := ten (iJ HK4.out.1 HBK.out); clear y0 y1 y2 y3 y4 y5 y6 y7 y8 y9))
    clear z0 z1 z2 z3 z4 z5 z6 z7 z8 z9
    go_loopw [59] (fun i wr => ∃ k : Nat, k ≤ l6.length ∧ i = .int .i64 k ∧ iC (Bf w1.heap.size w1.heap.size ([] ++ layB 6 1 ++ layB a1 4 ++ layB a5 4 ++ layB l6.length 1 ++ (l6.take k).flatMap nT) wr) ∧ iC (Kp w1.heap.size w1.heap.size w1 wr)) (fun i _ => l6.length - (intOf i).toNat)
    case atStart => exact ⟨0, Nat.zero_le _, rfl, ⟨by rw [List.take_zero, List.flatMap_nil, List.append_nil]; exact HI4.out⟩, HK4⟩
    case round =>
      obtain ⟨k, hk, rfl, HI, HK⟩ := hrel
      clear HI4 HK4 HI3 HK3 HI2 HK2 HI1 HK1 HI0 HK0
      by_cases hlt : k < l6.length
      · obtain ⟨ad, rfl, hx0, hx1⟩ := lT (Kd.C_below H6.out (iH HBW.out HK.out.1)) (k : Int) (by omega) (by omega)
        rw [RJ] at hx0 hx1
        rw [Int.toNat_natCast] at hx0 hx1
        have hts := iC.mk (kG nT xN l6 k hlt)
        have hpl : ([] ++ layB 6 1 ++ layB a1 4 ++ layB a5 4 ++ layB l6.length 1 ++ (l6.take k).flatMap nT).length + 10 ≤ 140737488355328 := by
          simp only [List.length_append, iL, List.length_nil, vP, List.length_take]
          omega
        obtain ⟨s, hs⟩ : ∃ s, s = l6.getD k xN := ⟨_, rfl⟩
        rw [← hs] at hx0 hx1 hts
        clear hs
        obtain ⟨pre, hpre⟩ : ∃ p, p = [] ++ layB 6 1 ++ layB a1 4 ++ layB a5 4 ++ layB l6.length 1 ++ (l6.take k).flatMap nT := ⟨_, rfl⟩
        have hrest : [] ++ layB 6 1 ++ layB a1 4 ++ layB a5 4 ++ layB l6.length 1 ++ (l6.take (k + 1)).flatMap nT = pre ++ nT s := by rw [hts.out, ← List.append_assoc, hpre]
        have HREST := iC.mk hrest
        rw [← hpre] at HI hpl
        have HPL := iC.mk (show (pre ++ layB s.f0 4).length + 1 ≤ 140737488355328 from by rw [List.length_append, iL]; omega)
        have HPL4 := iC.mk (show pre.length + 4 ≤ 140737488355328 from by omega)
        clear hpre hrest hts hpl
        obtain ⟨wo, rfl⟩ : ∃ wo : World, wo = wr := ⟨_, rfl⟩
        have HBX := iC.mk (Bf.alloc HI.out (.cells #[.int .i64 s.f0, .int .i64 s.f1] 98))
        have HKX := iC.mk (HK.out.alloc HK.out.1.size (.cells #[.int .i64 s.f0, .int .i64 s.f1] 98))
        have HNE := iC.mk (show wo.heap.size ≠ w1.heap.size from by have := HI.out.lt; omega)
        go_wp2_with fail
        refine (nX _ _ pre _ _ HBX.out HKX.out.1.size HPL4.out).mono ?_
        rintro e w2 ⟨rfl, hI, hK⟩
        have HI1 := iC.mk hI
        have HK1 := iC.mk (HKX.out.trans hK)
        have hblk := hK.block (iM rfl) HNE.out (by decide)
        clear hI hK
        have hz1 : w2.cell? ⟨wo.heap.size, 1, none⟩ = some (.int .i64 s.f1) := (iE hblk 1).trans rfl
        clear hblk
        go_wp2_with fail
        refine (pV _ _ _ _ _ HI1.out HK1.out.1.size HPL.out).mono ?_
        rintro e w3 ⟨rfl, hI, hK⟩
        have HI2 := iC.mk hI
        have HK2 := iC.mk (HK1.out.trans hK)
        clear hI hK
        go_wp2
        go_roundw
        case rel => exact ⟨k + 1, by omega, by go_num, ⟨by rw [HREST.out, nT, ← List.append_assoc]; exact HI2.out⟩, HK2⟩
        case measure => simp [intOf]; omega
      · skip
        obtain rfl : k = l6.length := by omega
        have hI' := HI.out
        rw [List.take_length] at hI'
        have HI' := iC.mk hI'
        clear hI'
        go_wp2_with (first | (go_at_call 55; refine (Tryd.Buffer_Len w1.heap.size w1.heap.size _ _ (HI'.out)).mono ?_; rintro e wl ⟨rfl, nl, rfl⟩; rw [Lib.byteCells_length, ← HLEN.out]))
        go_ret2
        exact ⟨_, rfl, Kd.R_nil _ _ _ _ _, by have hz := HBW.out; have hy := HK.out.1; exact iG (iH hz hy) _⟩
  · rw [if_neg hbig]
    have hbigI : ¬ (60000 : Int) < (X.length : Int) := by omega
    clear hbig
    go_enter Tryd.func17, Tryd.ntmps17
    go_wp2_with (first | (go_at_call 19; refine (code_Sound.calls 6 a1 a2 A3 c3 l3 A4 c4 l4 a5 A6 c6 l6 a7 a8 A9 c9 l9 _ _ (Kd.C_below H3.out bel_) d3 (Kd.C_below H4.out bel_) d4 (Kd.C_below H6.out bel_) d6 (Kd.C_below H9.out bel_) d9 rfl).mono ?_; rintro e w1 ⟨rfl, hb1⟩; rw [HS.out]; have HBW := iC.mk (show Below w.heap.size w w1 from iH (iF (Below.refl _ _) _) hb1); have HBK := iC.mk (iJ hb1 (iM rfl)); clear hb1; have HI0 := iC.mk (Bf.fresh w1); have HK0 := iC.mk ((Kp.refl w1.heap.size w1.heap.size w1).alloc (Nat.le_refl _) (.cells #[.slice none 0 0, .int .i64 0, .int .i8 0] 91)); obtain ⟨z0, z1, z2, z3, z4, z5, z6, z7, z8, z9, y0, y1, y2, y3, y4, y5, y6, y7, y8, y9⟩ := ten (jD (o := (.cells #[.slice none 0 0, .int .i64 0, .int .i8 0] 91)) HBK.out); clear y0 y1 y2 y3 y4 y5 y6 y7 y8 y9) | (go_at_call 49; refine (oO w1.heap.size w1.heap.size _ _ _ HI0.out HK0.out.1.size (by first | omega | (simp only [List.length_append, iL, List.length_nil, iV]; omega))).mono ?_; rintro e w2 ⟨rfl, hI, hK⟩; have HI1 := iC.mk hI; have HK1 := iC.mk (HK0.out.trans hK); clear hI hK z0 z1 z2 z3 z4 z5 z6 z7 z8 z9; obtain ⟨z0, z1, z2, z3, z4, z5, z6, z7, z8, z9, y0, y1, y2, y3, y4, y5, y6, y7, y8, y9⟩ := ten (iJ HK1.out.1 HBK.out); clear y0 y1 y2 y3 y4 y5 y6 y7 y8 y9) | (go_at_call 50; refine (lD w1.heap.size w1.heap.size _ _ _ HI1.out HK1.out.1.size (by first | omega | (simp only [List.length_append, iL, List.length_nil, iV]; omega))).mono ?_; rintro e w3 ⟨rfl, hI, hK⟩; have HI2 := iC.mk hI; have HK2 := iC.mk (HK1.out.trans hK); clear hI hK z0 z1 z2 z3 z4 z5 z6 z7 z8 z9; obtain ⟨z0, z1, z2, z3, z4, z5, z6, z7, z8, z9, y0, y1, y2, y3, y4, y5, y6, y7, y8, y9⟩ := ten (iJ HK2.out.1 HBK.out); clear y0 y1 y2 y3 y4 y5 y6 y7 y8 y9) | (go_at_call 50; refine (lD w1.heap.size w1.heap.size _ _ _ HI2.out HK2.out.1.size (by first | omega | (simp only [List.length_append, iL, List.length_nil, iV]; omega))).mono ?_; rintro e w4 ⟨rfl, hI, hK⟩; have HI3 := iC.mk hI; have HK3 := iC.mk (HK2.out.trans hK); clear hI hK z0 z1 z2 z3 z4 z5 z6 z7 z8 z9; obtain ⟨z0, z1, z2, z3, z4, z5, z6, z7, z8, z9, y0, y1, y2, y3, y4, y5, y6, y7, y8, y9⟩ := ten (iJ HK3.out.1 HBK.out); clear y0 y1 y2 y3 y4 y5 y6 y7 y8 y9) | (go_at_call 53; refine (pV w1.heap.size w1.heap.size _ _ _ HI3.out HK3.out.1.size (by first | omega | (simp only [List.length_append, iL, List.length_nil, iV]; omega))).mono ?_; rintro e w5 ⟨rfl, hI, hK⟩; have HI4 := iC.mk hI; have HK4 := iC.mk (HK3.out.trans hK); clear hI hK z0 z1 z2 z3 z4 z5 z6 z7 z8 z9; obtain ⟨z0, z1, z2, z3, z4, z5, z6, z7, z8, z9, y0, y1, y2, y3, y4, y5, y6, y7, y8, y9⟩ := ten (iJ HK4.out.1 HBK.out); clear y0 y1 y2 y3 y4 y5 y6 y7 y8 y9))
    clear z0 z1 z2 z3 z4 z5 z6 z7 z8 z9
    go_loopw [59] (fun i wr => ∃ k : Nat, k ≤ l6.length ∧ i = .int .i64 k ∧ iC (Bf w1.heap.size w1.heap.size ([] ++ layB 6 1 ++ layB a1 4 ++ layB a5 4 ++ layB l6.length 1 ++ (l6.take k).flatMap nT) wr) ∧ iC (Kp w1.heap.size w1.heap.size w1 wr)) (fun i _ => l6.length - (intOf i).toNat)
    case atStart => exact ⟨0, Nat.zero_le _, rfl, ⟨by rw [List.take_zero, List.flatMap_nil, List.append_nil]; exact HI4.out⟩, HK4⟩
    case round =>
      obtain ⟨k, hk, rfl, HI, HK⟩ := hrel
      clear HI4 HK4 HI3 HK3 HI2 HK2 HI1 HK1 HI0 HK0
      by_cases hlt : k < l6.length
      · obtain ⟨ad, rfl, hx0, hx1⟩ := lT (Kd.C_below H6.out (iH HBW.out HK.out.1)) (k : Int) (by omega) (by omega)
        rw [RJ] at hx0 hx1
        rw [Int.toNat_natCast] at hx0 hx1
        have hts := iC.mk (kG nT xN l6 k hlt)
        have hpl : ([] ++ layB 6 1 ++ layB a1 4 ++ layB a5 4 ++ layB l6.length 1 ++ (l6.take k).flatMap nT).length + 10 ≤ 140737488355328 := by
          simp only [List.length_append, iL, List.length_nil, vP, List.length_take]
          omega
        obtain ⟨s, hs⟩ : ∃ s, s = l6.getD k xN := ⟨_, rfl⟩
        rw [← hs] at hx0 hx1 hts
        clear hs
        obtain ⟨pre, hpre⟩ : ∃ p, p = [] ++ layB 6 1 ++ layB a1 4 ++ layB a5 4 ++ layB l6.length 1 ++ (l6.take k).flatMap nT := ⟨_, rfl⟩
        have hrest : [] ++ layB 6 1 ++ layB a1 4 ++ layB a5 4 ++ layB l6.length 1 ++ (l6.take (k + 1)).flatMap nT = pre ++ nT s := by rw [hts.out, ← List.append_assoc, hpre]
        have HREST := iC.mk hrest
        rw [← hpre] at HI hpl
        have HPL := iC.mk (show (pre ++ layB s.f0 4).length + 1 ≤ 140737488355328 from by rw [List.length_append, iL]; omega)
        have HPL4 := iC.mk (show pre.length + 4 ≤ 140737488355328 from by omega)
        clear hpre hrest hts hpl
        obtain ⟨wo, rfl⟩ : ∃ wo : World, wo = wr := ⟨_, rfl⟩
        have HBX := iC.mk (Bf.alloc HI.out (.cells #[.int .i64 s.f0, .int .i64 s.f1] 98))
        have HKX := iC.mk (HK.out.alloc HK.out.1.size (.cells #[.int .i64 s.f0, .int .i64 s.f1] 98))
        have HNE := iC.mk (show wo.heap.size ≠ w1.heap.size from by have := HI.out.lt; omega)
        go_wp2_with fail
        refine (nX _ _ pre _ _ HBX.out HKX.out.1.size HPL4.out).mono ?_
        rintro e w2 ⟨rfl, hI, hK⟩
        have HI1 := iC.mk hI
        have HK1 := iC.mk (HKX.out.trans hK)
        have hblk := hK.block (iM rfl) HNE.out (by decide)
        clear hI hK
        have hz1 : w2.cell? ⟨wo.heap.size, 1, none⟩ = some (.int .i64 s.f1) := (iE hblk 1).trans rfl
        clear hblk
        go_wp2_with fail
        refine (pV _ _ _ _ _ HI1.out HK1.out.1.size HPL.out).mono ?_
        rintro e w3 ⟨rfl, hI, hK⟩
        have HI2 := iC.mk hI
        have HK2 := iC.mk (HK1.out.trans hK)
        clear hI hK
        go_wp2
        go_roundw
        case rel => exact ⟨k + 1, by omega, by go_num, ⟨by rw [HREST.out, nT, ← List.append_assoc]; exact HI2.out⟩, HK2⟩
        case measure => simp [intOf]; omega
      · skip
        obtain rfl : k = l6.length := by omega
        have hI' := HI.out
        rw [List.take_length] at hI'
        have HI' := iC.mk hI'
        clear hI'
        go_wp2_with (first | (go_at_call 55; refine (Tryd.Buffer_Len w1.heap.size w1.heap.size _ _ (HI'.out)).mono ?_; rintro e wl ⟨rfl, nl, rfl⟩; rw [Lib.byteCells_length, ← HLEN.out]) | (go_at_call 56; refine (Tryd.Buffer_Bytes w1.heap.size w1.heap.size _ _ (HI'.out.drewN _)).mono ?_; rintro e wb ⟨v, rfl, hv, nb, rfl⟩; have HV := iC.mk hv; clear hv))
        go_ret2
        exact ⟨_, rfl, by rw [HX.out, VY]; exact qE HV.out HBW.out.size, by have hz := HBW.out; have hy := HK.out.1; exact iG (iH hz hy) _⟩
set_option maxHeartbeats 2000000 in
theorem TQ (hs : jJ ⟨a0, a1, a2, l3, l4, ⟨a5, l6⟩, a7, a8, l9⟩ = false) : Calls Tryd.prog 17 #[.agg #[.int .u8 a0, .int .u32 a1, .int .u32 a2, .slice A3 l3.length c3, .slice A4 l4.length c4, .int .u32 a5, .slice A6 l6.length c6, .int .i64 a7, .int .i64 a8, .slice A9 l9.length c9]] w (qA w (encR ⟨a0, a1, a2, l3, l4, ⟨a5, l6⟩, a7, a8, l9⟩)) := by
  have H3 := iC.mk h3; have H4 := iC.mk h4; have H6 := iC.mk h6; have H9 := iC.mk h9
  clear h3 h4 h6 h9
  unfold encR
  rw [if_neg (by rw [hs]; exact Bool.false_ne_true)]
  have HS := iC.mk hs
  clear hs
  go_enter Tryd.func17, Tryd.ntmps17
  go_wp2_with (first | (go_at_call 19; refine (code_Sound.calls a0 a1 a2 A3 c3 l3 A4 c4 l4 a5 A6 c6 l6 a7 a8 A9 c9 l9 _ _ (Kd.C_below H3.out bel_) d3 (Kd.C_below H4.out bel_) d4 (Kd.C_below H6.out bel_) d6 (Kd.C_below H9.out bel_) d9 rfl).mono ?_; rintro e w1 ⟨rfl, hb1⟩; rw [HS.out]))
  go_ret2
  exact ⟨_, rfl, Kd.R_nil _ _ _ _ _, iH (iF (Below.refl _ _) _) hb1⟩
end
theorem code_Encode.calls (a0_0 : Int) (a0_1 : Int) (a0_2 : Int) (A0_3 : Option Addr) (c0_3 : Nat) (l0_3 : List Int) (A0_4 : Option Addr) (c0_4 : Nat) (l0_4 : List jQ) (a0_5 : Int) (A0_6 : Option Addr) (c0_6 : Nat) (l0_6 : List kC) (a0_7 : Int) (a0_8 : Int) (A0_9 : Option Addr) (c0_9 : Nat) (l0_9 : List jG) (r1 : List Int) (r2 : Int) (w : World) (hr0_3 : Kd.C (Kd.int .i64) w A0_3 l0_3.length l0_3) (hc0_3 : l0_3.length ≤ c0_3) (hr0_4 : Kd.C k139 w A0_4 l0_4.length l0_4) (hc0_4 : l0_4.length ≤ c0_4) (hr0_6 : Kd.C k98 w A0_6 l0_6.length l0_6) (hc0_6 : l0_6.length ≤ c0_6) (hr0_9 : Kd.C k86 w A0_9 l0_9.length l0_9) (hc0_9 : l0_9.length ≤ c0_9) (h : code_Encode.f a0_0 a0_1 a0_2 l0_3 l0_4 a0_5 l0_6 a0_7 a0_8 l0_9 = some (r1, r2)) :
    Calls Tryd.prog 17 #[.agg #[.int .u8 a0_0, .int .u32 a0_1, .int .u32 a0_2, .slice A0_3 l0_3.length c0_3, .slice A0_4 l0_4.length c0_4, .int .u32 a0_5, .slice A0_6 l0_6.length c0_6, .int .i64 a0_7, .int .i64 a0_8, .slice A0_9 l0_9.length c0_9]] w fun e w' => ∃ v0_ : Value, e = .returned (.tuple #[v0_, .int .u16 r2]) ∧ Kd.R (Kd.int .u8) 5 w' w.heap.size (fun _ => True) v0_ r1 ∧ Below w.heap.size w w' := by
  have e := Option.some.inj h
  clear h
  have main : Calls Tryd.prog 17 #[.agg #[.int .u8 a0_0, .int .u32 a0_1, .int .u32 a0_2, .slice A0_3 l0_3.length c0_3, .slice A0_4 l0_4.length c0_4, .int .u32 a0_5, .slice A0_6 l0_6.length c0_6, .int .i64 a0_7, .int .i64 a0_8, .slice A0_9 l0_9.length c0_9]] w (qA w (encR ⟨a0_0, a0_1, a0_2, l0_3, l0_4, ⟨a0_5, l0_6⟩, a0_7, a0_8, l0_9⟩)) := by
    clear e
    cases hs : jJ ⟨a0_0, a0_1, a0_2, l0_3, l0_4, ⟨a0_5, l0_6⟩, a0_7, a0_8, l0_9⟩ with
    | false => exact TQ a0_0 a0_1 a0_2 A0_3 c0_3 l0_3 A0_4 c0_4 l0_4 a0_5 A0_6 c0_6 l0_6 a0_7 a0_8 A0_9 c0_9 l0_9 w hr0_3 hc0_3 hr0_4 hc0_4 hr0_6 hc0_6 hr0_9 hc0_9 hs
    | true =>
      by_cases h0 : a0_0 < 1 ∨ 7 < a0_0
      · rw [PH _ _ _ _ _ _ _ _ _ _ h0] at hs
        cases hs
      have h7 : a0_0 = 1 ∨ a0_0 = 2 ∨ a0_0 = 3 ∨ a0_0 = 4 ∨ a0_0 = 5 ∨ a0_0 = 6 ∨ a0_0 = 7 := by omega
      rcases h7 with rfl | rfl | rfl | rfl | rfl | rfl | rfl
      · exact U5 a0_1 a0_2 A0_3 c0_3 l0_3 A0_4 c0_4 l0_4 a0_5 A0_6 c0_6 l0_6 a0_7 a0_8 A0_9 c0_9 l0_9 w hr0_3 hc0_3 hr0_4 hc0_4 hr0_6 hc0_6 hr0_9 hc0_9 hs
      · exact TW a0_1 a0_2 A0_3 c0_3 l0_3 A0_4 c0_4 l0_4 a0_5 A0_6 c0_6 l0_6 a0_7 a0_8 A0_9 c0_9 l0_9 w hr0_3 hc0_3 hr0_4 hc0_4 hr0_6 hc0_6 hr0_9 hc0_9 hs
      · exact TP a0_1 a0_2 A0_3 c0_3 l0_3 A0_4 c0_4 l0_4 a0_5 A0_6 c0_6 l0_6 a0_7 a0_8 A0_9 c0_9 l0_9 w hr0_3 hc0_3 hr0_4 hc0_4 hr0_6 hc0_6 hr0_9 hc0_9 hs
      · exact UU a0_1 a0_2 A0_3 c0_3 l0_3 A0_4 c0_4 l0_4 a0_5 A0_6 c0_6 l0_6 a0_7 a0_8 A0_9 c0_9 l0_9 w hr0_3 hc0_3 hr0_4 hc0_4 hr0_6 hc0_6 hr0_9 hc0_9 hs
      · exact TS a0_1 a0_2 A0_3 c0_3 l0_3 A0_4 c0_4 l0_4 a0_5 A0_6 c0_6 l0_6 a0_7 a0_8 A0_9 c0_9 l0_9 w hr0_3 hc0_3 hr0_4 hc0_4 hr0_6 hc0_6 hr0_9 hc0_9 hs
      · exact TV a0_1 a0_2 A0_3 c0_3 l0_3 A0_4 c0_4 l0_4 a0_5 A0_6 c0_6 l0_6 a0_7 a0_8 A0_9 c0_9 l0_9 w hr0_3 hc0_3 hr0_4 hc0_4 hr0_6 hc0_6 hr0_9 hc0_9 hs
      · exact TT a0_1 a0_2 A0_3 c0_3 l0_3 A0_4 c0_4 l0_4 a0_5 A0_6 c0_6 l0_6 a0_7 a0_8 A0_9 c0_9 l0_9 w hr0_3 hc0_3 hr0_4 hc0_4 hr0_6 hc0_6 hr0_9 hc0_9 hs
  rw [e] at main
  exact main
end Go.Proofs.YtgfkgppomaapiaaDoor.K
end

section
namespace Go.Proofs.YtgfkgppomaapiaaDoor.K
open Go.RowKit Go.Proofs.YtgfkgppomaapiaaDoorW.PrintWords Go.Proofs.YtgfkgppomaapiaaDoorW.PrintLast Go.Proofs.YtgfkgppomaapiaaDoorW.PrintMore
def stratumref07_Put.l0 : Nat → List Int → Int → Int → Option (List Int)
  | 0, _, _, _ => none
  | k + 1, x0, x1, x7 => if x7 ≥ 0 then (if 0 ≤ (IntKind.u64.wrap (8 * (IntKind.u64.wrap (x7)))) then (if x0.length < 140737488355328 then (stratumref07_Put.l0 k (x0 ++ [(shr .u64 x1 (IntKind.u64.wrap (8 * (IntKind.u64.wrap (x7))))) % 256]) x1 (wrap64 (x7 - 1))) else (none)) else (none)) else (some x0)
def stratumref07_Put.f (k : Nat) (l0 : List Int) (a1 : Int) (a2 : Int) : Option (List Int) := stratumref07_Put.l0 k l0 a1 (wrap64 (a2 - 1))
set_option maxHeartbeats 8000000 in
set_option maxRecDepth 100000 in
theorem stratumref07_Put.calls (k : Nat) (P0_ : Nat → Prop) (u9000_ : Value) (l0 : List Int) (a1 : Int) (a2 : Int) (r : List Int) (w0 w : World) (hB : Below w0.heap.size w0 w) (ho0 : Kd.R (Kd.int .u8) 5 w w0.heap.size P0_ u9000_ l0) (h : stratumref07_Put.f k l0 a1 a2 = some r) :
    Calls Tryd.prog 57 #[u9000_, .int .u64 a1, .int .i64 a2] w fun e w' => ∃ v0_ : Value, e = .returned (v0_) ∧ Kd.R (Kd.int .u8) 5 w' w0.heap.size (fun k_ => (P0_ k_ ∨ w.heap.size ≤ k_)) v0_ r ∧ Below w0.heap.size w0 w' ∧ Kept w w' (fun k_ => P0_ k_) := by
  have HO0 := iC.mk (show Kd.R (Kd.int .u8) 5 w w0.heap.size (fun k_ => (P0_ k_ ∨ w.heap.size ≤ k_)) u9000_ l0 from Kd.R_mono ho0 (fun k_ hk => (.inl hk)))
  have HK := iC.mk (Kept.refl w (fun k_ => P0_ k_))
  have HW0 := iC.mk hB.size
  have HB := iC.mk hB
  clear hB
  have H : (stratumref07_Put.l0 k l0 a1 (wrap64 (a2 - 1))) = some r := h
  clear h
  have H' := iC.mk H
  clear H
  go_enter Tryd.func57, Tryd.ntmps57
  go_wp2
  go_loopg [0, 7] k (fun kq v0 v7 w' => ∃ (x0_1 : List Int) (x7_1 : Int), v7 = .int .i64 x7_1 ∧ iC (stratumref07_Put.l0 kq x0_1 a1 x7_1 = some r) ∧ iC (kq ≤ k) ∧ iC (Kd.R (Kd.int .u8) 5 w' w0.heap.size (fun k_ => (P0_ k_ ∨ w.heap.size ≤ k_)) v0 x0_1) ∧ iC (Kept w w' (fun k_ => P0_ k_)) ∧ iC (Below w0.heap.size w0 w'))
  case atStart => exact ⟨(l0), (wrap64 (a2 - 1)), (by first | rfl | (simp; done) | (simp [*]; done)), H', ⟨Nat.le_refl _⟩, ⟨by (with_reducible repeat (first | apply Kd.R_alloc | apply Kd.R_drewN | apply Kd.R_drew)); exact HO0.out⟩, ⟨by repeat (first | (with_reducible first | exact HK.out | apply Kept.alloc | apply Kept.drewN | apply Kept.drew) | exact HK.out)⟩, ⟨hb_⟩⟩
  case round =>
    clear H'
    try clear p2
    obtain ⟨x0_1, x7_1, rfl, HA, HK1, HO_0, HK, HB⟩ := hrel
    cases gk with
    | zero => exact absurd HA.out (by simp [stratumref07_Put.l0])
    | succ k1 =>
      have H := HA.out
      clear HA
      simp only [stratumref07_Put.l0] at H
      by_cases c4 : x7_1 ≥ 0
      · rw [if_pos c4] at H
        have c4b0 : decide (0 ≤ x7_1) = true := decide_eq_true c4
        clear c4
        obtain ⟨ji5, hji5⟩ : ∃ j_ : Int, (IntKind.u64.wrap (8 * (IntKind.u64.wrap (x7_1)))) = j_ := ⟨_, rfl⟩
        replace H : (if 0 ≤ (ji5) then (if x0_1.length < 140737488355328 then (stratumref07_Put.l0 k1 (x0_1 ++ [(shr .u64 a1 (ji5)) % 256]) a1 (wrap64 (x7_1 - 1))) else (none)) else (none)) = some r := by first | (rw [hji5] at H; exact H) | (simp only [hji5] at H ⊢; exact H)
        by_cases c6 : 0 ≤ (ji5)
        · rw [if_pos c6] at H
          have c6b0 := eq_true c6
          have c6b1 : decide (0 ≤ (ji5)) = true := decide_eq_true c6
          clear c6
          obtain ⟨ji7, hji7⟩ : ∃ j_ : Int, (shr .u64 a1 (ji5)) = j_ := ⟨_, rfl⟩
          replace H : (if x0_1.length < 140737488355328 then (stratumref07_Put.l0 k1 (x0_1 ++ [(ji7) % 256]) a1 (wrap64 (x7_1 - 1))) else (none)) = some r := by first | (rw [hji7] at H; exact H) | (simp only [hji7] at H ⊢; exact H)
          have hji7_ : (a1 / 2 ^ min (ji5).toNat 64) = ji7 := hji7
          have hji7z : (ji5) ≤ 64 → (a1 / 2 ^ (ji5).toNat) = ji7 := QT hji7
          by_cases c8 : x0_1.length < 140737488355328
          · rw [if_pos c8] at H
            have LMc8 := iC.mk c8
            clear c8
            obtain ⟨y146, hy146⟩ : ∃ y_ : List Int, y_ = (x0_1 ++ [(ji7) % 256]) := ⟨_, rfl⟩
            replace H : (stratumref07_Put.l0 k1 y146 a1 (wrap64 (x7_1 - 1))) = some r := by first | (rw [hy146]; with_reducible exact H) | (have H2_ := (Option.bind_some _ _).symm.trans H; rw [hy146]; with_reducible exact H2_) | (have H2_ := (Option.bind_some _ _).symm.trans H; with_reducible exact H2_) | with_reducible exact H | (rw [hy146]; exact H) | exact H
            have Ny146 := iC.mk hy146
            clear hy146
            have H' := iC.mk H
            clear H
            go_wp2_with (first | ((with_reducible refine J5 (b := .append) (xs := #[.tmp 14, .tmp 21]) rfl ?_); at_builtin; refine Kd.R_append (Kd.int .u8) (w0 := w0) w0.heap.size rfl (.tmp 14) (.tmp 21) 33 5 (.int .u8 0) 1 rfl Tryd.underlying33 info5 rfl (by decide) (by omega) u0 x0_1 ((ji7) % 256) [.int .u8 ((ji7) % 256)] (fun k_ => (P0_ k_ ∨ w.heap.size ≤ k_)) (fun _ => False) rfl rfl ?aP (fun _ hk => hk.elim) ?aF ?aO ?aB ?aS ?aL ?_; (case aP => exact rfl); (case aB => exact hb_); (case aF => exact (fun k_ hk => (.inr (Nat.le_trans (by first | exact HK.out.1 | exact (show Kept w _ (fun k_ => P0_ k_) from by repeat (first | (with_reducible first | exact HK.out | apply Kept.alloc | apply Kept.drewN | apply Kept.drew) | exact HK.out)).1) hk)))); (case aO => exact (by (with_reducible repeat (first | apply Kd.R_alloc | apply Kd.R_drewN | apply Kd.R_drew)); exact HO_0.out)); (case aS => exact (iR hb_)); (case aL => have := LMc8.out; omega); intro v147 w9 ho hb hg hat; rw [← Ny146.out] at ho; have n0_ := iC.mk (hb); have n1_ := iC.mk (Kept.of_grown (S := (fun k_ => P0_ k_)) hg (by repeat (first | (with_reducible first | exact HK.out | apply Kept.alloc | apply Kept.drewN | apply Kept.drew) | exact HK.out)) (fun k_ e_ => (HO_0.out.1 k_ e_))); have n2_ := iC.mk (ho); clear HB; clear HK; clear HO_0; have HB := n0_; have HK := n1_; have HO148 := n2_; clear n0_ n1_ n2_; clear ho hb hg hat))
            go_roundg k1
            case measure => have := HK1.out; omega
            case rel => exact ⟨(y146), (wrap64 (x7_1 - 1)), (by first | rfl | (simp; done) | (simp [*]; done)), H', ⟨by have := HK1.out; omega⟩, ⟨by (with_reducible repeat (first | apply Kd.R_alloc | apply Kd.R_drewN | apply Kd.R_drew)); exact HO148.out⟩, ⟨by repeat (first | (with_reducible first | exact HK.out | apply Kept.alloc | apply Kept.drewN | apply Kept.drew) | exact HK.out)⟩, ⟨hb_⟩⟩
          · rw [if_neg c8] at H
            exact absurd H (by simp)
        · rw [if_neg c6] at H
          exact absurd H (by simp)
      · rw [if_neg c4] at H
        have c4b0 : decide (0 ≤ x7_1) = false := decide_eq_false c4
        clear c4
        obtain rfl := Option.some.inj H
        go_wp2
        go_ret
        exact ⟨_, by first | rfl | (simp [iP, iO] <;> rfl) | (simp [*, iP, iO] <;> rfl), by (with_reducible repeat (first | apply Kd.R_alloc | apply Kd.R_drewN | apply Kd.R_drew)); exact HO_0.out, hb_, by repeat (first | (with_reducible first | exact HK.out | apply Kept.alloc | apply Kept.drewN | apply Kept.drew) | exact HK.out)⟩
end Go.Proofs.YtgfkgppomaapiaaDoor.K
end

section
namespace Go.Proofs.YtgfkgppomaapiaaDoor.K
open Go.RowKit Go.Proofs.YtgfkgppomaapiaaDoorW.PrintWords Go.Proofs.YtgfkgppomaapiaaDoorW.PrintLast Go.Proofs.YtgfkgppomaapiaaDoorW.PrintMore
def stratumref07_Nodes.l0 : Nat → List Int → List Int → Int → Option (List Int)
  | 0, _, _, _ => none
  | k + 1, x0, x1, x5 => if x5 < (x1.length : Int) then (if 0 ≤ x5 then ((stratumref07_Put.f k x0 (IntKind.u64.wrap (rd x1 x5)) 1).bind fun t153 => (stratumref07_Nodes.l0 k t153 x1 (wrap64 (x5 + 1)))) else (none)) else (some x0)
def stratumref07_Nodes.f (k : Nat) (l0 : List Int) (l1 : List Int) : Option (List Int) := (stratumref07_Put.f k l0 (IntKind.u64.wrap ((l1.length : Int))) 1).bind fun t149 => (stratumref07_Nodes.l0 k t149 l1 0)
set_option maxHeartbeats 8000000 in
set_option maxRecDepth 100000 in
theorem stratumref07_Nodes.calls (k : Nat) (P0_ : Nat → Prop) (u9000_ : Value) (l0 : List Int) (A1 : Option Addr) (c1 : Nat) (l1 : List Int) (r : List Int) (w0 w : World) (hB : Below w0.heap.size w0 w) (ho0 : Kd.R (Kd.int .u8) 5 w w0.heap.size P0_ u9000_ l0) (hr1 : ∀ W_, Kept w W_ (fun k_ => P0_ k_) → Kd.C (Kd.int .i64) W_ A1 l1.length l1) (hc1 : l1.length ≤ c1) (h : stratumref07_Nodes.f k l0 l1 = some r) :
    Calls Tryd.prog 58 #[u9000_, .slice A1 l1.length c1] w fun e w' => ∃ v0_ : Value, e = .returned (v0_) ∧ Kd.R (Kd.int .u8) 5 w' w0.heap.size (fun k_ => (P0_ k_ ∨ w.heap.size ≤ k_)) v0_ r ∧ Below w0.heap.size w0 w' ∧ Kept w w' (fun k_ => P0_ k_) := by
  have HO0 := iC.mk (show Kd.R (Kd.int .u8) 5 w w0.heap.size (fun k_ => (P0_ k_ ∨ w.heap.size ≤ k_)) u9000_ l0 from Kd.R_mono ho0 (fun k_ hk => (.inl hk)))
  have HR1 := iC.mk hr1
  have HC1 := iC.mk hc1
  clear hr1 hc1
  have HK := iC.mk (Kept.refl w (fun k_ => P0_ k_))
  have HW0 := iC.mk hB.size
  have HB := iC.mk hB
  clear hB
  have H : ((stratumref07_Put.f k l0 (IntKind.u64.wrap ((l1.length : Int))) 1).bind fun t149 => (stratumref07_Nodes.l0 k t149 l1 0)) = some r := h
  clear h
  replace H := Option.bind_eq_some_iff.mp H
  obtain ⟨t149, A30, H⟩ := H
  replace H : (stratumref07_Nodes.l0 k t149 l1 0) = some r := H
  have A3 := iC.mk A30
  clear A30
  have H' := iC.mk H
  clear H
  obtain ⟨Ao4, co4, eo4⟩ := Kd.R_slice HO0.out
  subst eo4
  go_enter Tryd.func58, Tryd.ntmps58
  go_wp2_with (first | ((with_reducible refine jM (f := 57) rfl ?_); refine mP (some 10) rfl rfl Tryd.func57 (by kernel_rfl) rfl #[.slice Ao4 l0.length co4, .int .u64 (IntKind.u64.wrap ((l1.length : Int))), .int .i64 1] rfl (by (try simp only [List.map_toArray, List.map_cons, List.map_nil]); first | done | rfl | (simp only [List.length_drop, List.length_take]; rfl)) ?_; (with_reducible refine (stratumref07_Put.calls k (fun k_ => some k_ = (.slice Ao4 l0.length co4 : Value).ownBlock) (.slice Ao4 l0.length co4) l0 (IntKind.u64.wrap ((l1.length : Int))) 1 t149 w0 _ ?side1 ?side2 A3.out).mono ?_); (case side1 => repeat (first | (with_reducible first | exact HB.out | apply iF | apply iG | apply iI) | exact HB.out)); (case side2 => exact Kd.R_tight rfl HO0.out); rintro e w5 ⟨v150, rfl, ho0, hb, hkp⟩; refine ⟨_, rfl, ?_⟩; have n0_ := iC.mk (Kd.R_mono (ok' := fun k_ => (P0_ k_ ∨ w.heap.size ≤ k_)) ho0 (fun k_ hk_ => Or.elim hk_ (fun hs_ => (HO0.out.1 k_ (hs_).symm)) (fun hn_ => (.inr (Nat.le_trans (by first | exact HK.out.1 | exact (show Kept w _ (fun k_ => P0_ k_) from by repeat (first | (with_reducible first | exact HK.out | apply Kept.alloc | apply Kept.drewN | apply Kept.drew) | exact HK.out)).1) hn_))))); have n1_ := iC.mk (Kept.then_ (S := (fun k_ => P0_ k_)) (by repeat (first | (with_reducible first | exact HK.out | apply Kept.alloc | apply Kept.drewN | apply Kept.drew) | exact HK.out)) hkp (fun k_ hs_ => (fun e_ => (HO0.out.1 k_ e_.symm)) hs_)); have n2_ := iC.mk (hb); clear HK; clear HB; clear HO0; have HO151 := n0_; have HK := n1_; have HB := n2_; clear n0_ n1_ n2_; (try clear hb); (try clear hkp); (try clear ho0)))
  go_loopg [0, 5] k (fun kq v0 v5 w' => ∃ (x0_1 : List Int) (x5_1 : Int), v5 = .int .i64 x5_1 ∧ iC (stratumref07_Nodes.l0 kq x0_1 l1 x5_1 = some r) ∧ iC (kq ≤ k) ∧ iC (Kd.R (Kd.int .u8) 5 w' w0.heap.size (fun k_ => (P0_ k_ ∨ w.heap.size ≤ k_)) v0 x0_1) ∧ iC (Kept w w' (fun k_ => P0_ k_)) ∧ iC (Below w0.heap.size w0 w'))
  case atStart => exact ⟨(t149), (0), (by first | rfl | (simp; done) | (simp [*]; done)), H', ⟨Nat.le_refl _⟩, ⟨by (with_reducible repeat (first | apply Kd.R_alloc | apply Kd.R_drewN | apply Kd.R_drew)); exact HO151.out⟩, ⟨by repeat (first | (with_reducible first | exact HK.out | apply Kept.alloc | apply Kept.drewN | apply Kept.drew) | exact HK.out)⟩, ⟨hb_⟩⟩
  case round =>
    clear H'
    try clear c1
    try clear p2
    try clear c5
    obtain ⟨x0_1, x5_1, rfl, HA, HK1, HO_0, HK, HB⟩ := hrel
    cases gk with
    | zero => exact absurd HA.out (by simp [stratumref07_Nodes.l0])
    | succ k1 =>
      have H := HA.out
      clear HA
      simp only [stratumref07_Nodes.l0] at H
      by_cases c6 : x5_1 < (l1.length : Int)
      · rw [if_pos c6] at H
        have c6b0 : decide (x5_1 < (l1.length : Int)) = true := decide_eq_true c6
        clear c6
        by_cases c7 : 0 ≤ x5_1
        · rw [if_pos c7] at H
          have c7b0 : decide (0 ≤ x5_1) = true := decide_eq_true c7
          clear c7
          replace H := Option.bind_eq_some_iff.mp H
          obtain ⟨t153, A80, H⟩ := H
          replace H : (stratumref07_Nodes.l0 k1 t153 l1 (wrap64 (x5_1 + 1))) = some r := H
          have A8 := iC.mk A80
          clear A80
          have H' := iC.mk H
          clear H
          have p152 : 0 ≤ (x5_1 : Int) := of_decide_eq_true asm_
          have q152 : x5_1 < (l1.length : Int) := of_decide_eq_true asm_
          obtain ⟨ad152, e152, hx152_0⟩ := Kd.at_int (Kd.C_kept_now HR1.out HK.out) x5_1 p152 q152
          cases e152
          replace p152 := eq_true p152
          replace q152 := eq_true q152
          obtain ⟨Ao9, co9, eo9⟩ := Kd.R_slice HO_0.out
          subst eo9
          go_wp2_with (first | ((with_reducible refine jM (f := 57) rfl ?_); refine mP (some 23) rfl rfl Tryd.func57 (by kernel_rfl) rfl #[.slice Ao9 x0_1.length co9, .int .u64 (IntKind.u64.wrap (rd l1 x5_1)), .int .i64 1] rfl (by (try simp only [List.map_toArray, List.map_cons, List.map_nil]); first | done | rfl | (simp only [List.length_drop, List.length_take]; rfl)) ?_; (with_reducible refine (stratumref07_Put.calls k1 (fun k_ => some k_ = (.slice Ao9 x0_1.length co9 : Value).ownBlock) (.slice Ao9 x0_1.length co9) x0_1 (IntKind.u64.wrap (rd l1 x5_1)) 1 t153 w0 _ ?side1 ?side2 A8.out).mono ?_); (case side1 => repeat (first | (with_reducible first | exact HB.out | apply iF | apply iG | apply iI) | exact HB.out)); (case side2 => exact Kd.R_tight rfl HO_0.out); rintro e w10 ⟨v154, rfl, ho0, hb, hkp⟩; refine ⟨_, rfl, ?_⟩; have n0_ := iC.mk (Kd.R_mono (ok' := fun k_ => (P0_ k_ ∨ w.heap.size ≤ k_)) ho0 (fun k_ hk_ => Or.elim hk_ (fun hs_ => (HO_0.out.1 k_ (hs_).symm)) (fun hn_ => (.inr (Nat.le_trans (by first | exact HK.out.1 | exact (show Kept w _ (fun k_ => P0_ k_) from by repeat (first | (with_reducible first | exact HK.out | apply Kept.alloc | apply Kept.drewN | apply Kept.drew) | exact HK.out)).1) hn_))))); have n1_ := iC.mk (Kept.then_ (S := (fun k_ => P0_ k_)) (by repeat (first | (with_reducible first | exact HK.out | apply Kept.alloc | apply Kept.drewN | apply Kept.drew) | exact HK.out)) hkp (fun k_ hs_ => (fun e_ => (HO_0.out.1 k_ e_.symm)) hs_)); have n2_ := iC.mk (hb); clear HK; clear HB; clear HO_0; have HO155 := n0_; have HK := n1_; have HB := n2_; clear n0_ n1_ n2_; (try clear hb); (try clear hkp); (try clear ho0)))
          go_roundg k1
          case measure => have := HK1.out; omega
          case rel => exact ⟨(t153), (wrap64 (x5_1 + 1)), (by first | rfl | (simp; done) | (simp [*]; done)), H', ⟨by have := HK1.out; omega⟩, ⟨by (with_reducible repeat (first | apply Kd.R_alloc | apply Kd.R_drewN | apply Kd.R_drew)); exact HO155.out⟩, ⟨by repeat (first | (with_reducible first | exact HK.out | apply Kept.alloc | apply Kept.drewN | apply Kept.drew) | exact HK.out)⟩, ⟨hb_⟩⟩
        · rw [if_neg c7] at H
          exact absurd H (by simp)
      · rw [if_neg c6] at H
        have c6b0 : decide (x5_1 < (l1.length : Int)) = false := decide_eq_false c6
        clear c6
        obtain rfl := Option.some.inj H
        go_wp2
        go_ret
        exact ⟨_, by first | rfl | (simp [iP, iO] <;> rfl) | (simp [*, iP, iO] <;> rfl), by (with_reducible repeat (first | apply Kd.R_alloc | apply Kd.R_drewN | apply Kd.R_drew)); exact HO_0.out, hb_, by repeat (first | (with_reducible first | exact HK.out | apply Kept.alloc | apply Kept.drewN | apply Kept.drew) | exact HK.out)⟩
end Go.Proofs.YtgfkgppomaapiaaDoor.K
end

section
namespace Go.Proofs.YtgfkgppomaapiaaDoor.K
open Go.RowKit Go.Proofs.YtgfkgppomaapiaaDoorW.PrintWords Go.Proofs.YtgfkgppomaapiaaDoorW.PrintLast Go.Proofs.YtgfkgppomaapiaaDoorW.PrintMore
mutual
def stratumref07_Facts.l0 : Nat → List Int → List (S139) → Int → Option (List Int)
  | 0, _, _, _ => none
  | k + 1, x0, x1, x5 => if x5 < (x1.length : Int) then (if 0 ≤ x5 then ((stratumref07_Put.f k x0 (IntKind.u64.wrap ((((iW x1 x5).f0).length : Int))) 1).bind fun t160 => (stratumref07_Facts.l1 k t160 x1 x5 0)) else (none)) else (some x0)
def stratumref07_Facts.l1 : Nat → List Int → List (S139) → Int → Int → Option (List Int)
  | 0, _, _, _, _ => none
  | k + 1, x0, x1, x5, x6 => if 0 ≤ x5 then (if x5 < (x1.length : Int) then (if x6 < (((iW x1 x5).f0).length : Int) then (if 0 ≤ x6 then ((stratumref07_Put.f k x0 (IntKind.u64.wrap (rd ((iW x1 x5).f0) x6)) 4).bind fun t166 => (stratumref07_Facts.l1 k t166 x1 x5 (wrap64 (x6 + 1)))) else (none)) else ((stratumref07_Put.f k x0 (IntKind.u64.wrap ((iW x1 x5).f1)) 8).bind fun t170 => (stratumref07_Facts.l0 k t170 x1 (wrap64 (x5 + 1))))) else (none)) else (none)
end
def stratumref07_Facts.f (k : Nat) (l0 : List Int) (l1 : List (S139)) : Option (List Int) := (stratumref07_Put.f k l0 (IntKind.u64.wrap ((l1.length : Int))) 4).bind fun t156 => (stratumref07_Facts.l0 k t156 l1 0)
set_option maxHeartbeats 8000000 in
set_option maxRecDepth 100000 in
theorem stratumref07_Facts.calls (k : Nat) (P0_ : Nat → Prop) (u9000_ : Value) (l0 : List Int) (A1 : Option Addr) (c1 : Nat) (l1 : List (S139)) (r : List Int) (w0 w : World) (hB : Below w0.heap.size w0 w) (ho0 : Kd.R (Kd.int .u8) 5 w w0.heap.size P0_ u9000_ l0) (hr1 : ∀ W_, Kept w W_ (fun k_ => P0_ k_) → Kd.C k139 W_ A1 l1.length l1) (hc1 : l1.length ≤ c1) (h : stratumref07_Facts.f k l0 l1 = some r) :
    Calls Tryd.prog 59 #[u9000_, .slice A1 l1.length c1] w fun e w' => ∃ v0_ : Value, e = .returned (v0_) ∧ Kd.R (Kd.int .u8) 5 w' w0.heap.size (fun k_ => (P0_ k_ ∨ w.heap.size ≤ k_)) v0_ r ∧ Below w0.heap.size w0 w' ∧ Kept w w' (fun k_ => P0_ k_) := by
  have HO0 := iC.mk (show Kd.R (Kd.int .u8) 5 w w0.heap.size (fun k_ => (P0_ k_ ∨ w.heap.size ≤ k_)) u9000_ l0 from Kd.R_mono ho0 (fun k_ hk => (.inl hk)))
  have HR1 := iC.mk hr1
  have HC1 := iC.mk hc1
  clear hr1 hc1
  have HK := iC.mk (Kept.refl w (fun k_ => P0_ k_))
  have HW0 := iC.mk hB.size
  have HB := iC.mk hB
  clear hB
  have H : ((stratumref07_Put.f k l0 (IntKind.u64.wrap ((l1.length : Int))) 4).bind fun t156 => (stratumref07_Facts.l0 k t156 l1 0)) = some r := h
  clear h
  replace H := Option.bind_eq_some_iff.mp H
  obtain ⟨t156, A30, H⟩ := H
  replace H : (stratumref07_Facts.l0 k t156 l1 0) = some r := H
  have A3 := iC.mk A30
  clear A30
  have H' := iC.mk H
  clear H
  obtain ⟨Ao4, co4, eo4⟩ := Kd.R_slice HO0.out
  subst eo4
  go_enter Tryd.func59, Tryd.ntmps59
  go_wp2_with (first | ((with_reducible refine jM (f := 57) rfl ?_); refine mP (some 11) rfl rfl Tryd.func57 (by kernel_rfl) rfl #[.slice Ao4 l0.length co4, .int .u64 (IntKind.u64.wrap ((l1.length : Int))), .int .i64 4] rfl (by (try simp only [List.map_toArray, List.map_cons, List.map_nil]); first | done | rfl | (simp only [List.length_drop, List.length_take]; rfl)) ?_; (with_reducible refine (stratumref07_Put.calls k (fun k_ => some k_ = (.slice Ao4 l0.length co4 : Value).ownBlock) (.slice Ao4 l0.length co4) l0 (IntKind.u64.wrap ((l1.length : Int))) 4 t156 w0 _ ?side1 ?side2 A3.out).mono ?_); (case side1 => repeat (first | (with_reducible first | exact HB.out | apply iF | apply iG | apply iI) | exact HB.out)); (case side2 => exact Kd.R_tight rfl HO0.out); rintro e w5 ⟨v157, rfl, ho0, hb, hkp⟩; refine ⟨_, rfl, ?_⟩; have n0_ := iC.mk (Kd.R_mono (ok' := fun k_ => (P0_ k_ ∨ w.heap.size ≤ k_)) ho0 (fun k_ hk_ => Or.elim hk_ (fun hs_ => (HO0.out.1 k_ (hs_).symm)) (fun hn_ => (.inr (Nat.le_trans (by first | exact HK.out.1 | exact (show Kept w _ (fun k_ => P0_ k_) from by repeat (first | (with_reducible first | exact HK.out | apply Kept.alloc | apply Kept.drewN | apply Kept.drew) | exact HK.out)).1) hn_))))); have n1_ := iC.mk (Kept.then_ (S := (fun k_ => P0_ k_)) (by repeat (first | (with_reducible first | exact HK.out | apply Kept.alloc | apply Kept.drewN | apply Kept.drew) | exact HK.out)) hkp (fun k_ hs_ => (fun e_ => (HO0.out.1 k_ e_.symm)) hs_)); have n2_ := iC.mk (hb); clear HK; clear HB; clear HO0; have HO158 := n0_; have HK := n1_; have HB := n2_; clear n0_ n1_ n2_; (try clear hb); (try clear hkp); (try clear ho0)))
  go_loopg [0, 5] k (fun kq v0 v5 w' => ∃ (x0_1 : List Int) (x5_1 : Int), v5 = .int .i64 x5_1 ∧ iC (stratumref07_Facts.l0 kq x0_1 l1 x5_1 = some r) ∧ iC (kq ≤ k) ∧ iC (Kd.R (Kd.int .u8) 5 w' w0.heap.size (fun k_ => (P0_ k_ ∨ w.heap.size ≤ k_)) v0 x0_1) ∧ iC (Kept w w' (fun k_ => P0_ k_)) ∧ iC (Below w0.heap.size w0 w'))
  case atStart => exact ⟨(t156), (0), (by first | rfl | (simp; done) | (simp [*]; done)), H', ⟨Nat.le_refl _⟩, ⟨by (with_reducible repeat (first | apply Kd.R_alloc | apply Kd.R_drewN | apply Kd.R_drew)); exact HO158.out⟩, ⟨by repeat (first | (with_reducible first | exact HK.out | apply Kept.alloc | apply Kept.drewN | apply Kept.drew) | exact HK.out)⟩, ⟨hb_⟩⟩
  case round =>
    clear H'
    try clear c1
    try clear p2
    try clear c5
    obtain ⟨x0_1, x5_1, rfl, HA, HK1, HO_0, HK, HB⟩ := hrel
    cases gk with
    | zero => exact absurd HA.out (by simp [stratumref07_Facts.l0])
    | succ k1 =>
      have H := HA.out
      clear HA
      simp only [stratumref07_Facts.l0] at H
      by_cases c6 : x5_1 < (l1.length : Int)
      · rw [if_pos c6] at H
        have c6b0 : decide (x5_1 < (l1.length : Int)) = true := decide_eq_true c6
        clear c6
        by_cases c7 : 0 ≤ x5_1
        · rw [if_pos c7] at H
          have c7b0 : decide (0 ≤ x5_1) = true := decide_eq_true c7
          clear c7
          replace H := Option.bind_eq_some_iff.mp H
          obtain ⟨t160, A80, H⟩ := H
          replace H : (stratumref07_Facts.l1 k1 t160 l1 x5_1 0) = some r := H
          have A8 := iC.mk A80
          clear A80
          have H' := iC.mk H
          clear H
          have p159 : 0 ≤ (x5_1 : Int) := of_decide_eq_true asm_
          have q159 : x5_1 < (l1.length : Int) := of_decide_eq_true asm_
          obtain ⟨ad159, A159_0, c159_0, e159, hx159_0, hx159_1, hl159_0, hi159_0⟩ := kU (Kd.C_kept_now HR1.out HK.out) x5_1 p159 q159
          cases e159
          have HR159_0 := iC.mk hi159_0
          have HC159_0 := iC.mk hl159_0
          clear hi159_0 hl159_0
          replace p159 := eq_true p159
          replace q159 := eq_true q159
          obtain ⟨Ao9, co9, eo9⟩ := Kd.R_slice HO_0.out
          subst eo9
          go_wp2_with (first | ((with_reducible refine jM (f := 57) rfl ?_); refine mP (some 26) rfl rfl Tryd.func57 (by kernel_rfl) rfl #[.slice Ao9 x0_1.length co9, .int .u64 (IntKind.u64.wrap ((((iW l1 x5_1).f0).length : Int))), .int .i64 1] rfl (by (try simp only [List.map_toArray, List.map_cons, List.map_nil]); first | done | rfl | (simp only [List.length_drop, List.length_take]; rfl)) ?_; (with_reducible refine (stratumref07_Put.calls k1 (fun k_ => some k_ = (.slice Ao9 x0_1.length co9 : Value).ownBlock) (.slice Ao9 x0_1.length co9) x0_1 (IntKind.u64.wrap ((((iW l1 x5_1).f0).length : Int))) 1 t160 w0 _ ?side1 ?side2 A8.out).mono ?_); (case side1 => repeat (first | (with_reducible first | exact HB.out | apply iF | apply iG | apply iI) | exact HB.out)); (case side2 => exact Kd.R_tight rfl HO_0.out); rintro e w10 ⟨v161, rfl, ho0, hb, hkp⟩; refine ⟨_, rfl, ?_⟩; have n0_ := iC.mk (Kd.R_mono (ok' := fun k_ => (P0_ k_ ∨ w.heap.size ≤ k_)) ho0 (fun k_ hk_ => Or.elim hk_ (fun hs_ => (HO_0.out.1 k_ (hs_).symm)) (fun hn_ => (.inr (Nat.le_trans (by first | exact HK.out.1 | exact (show Kept w _ (fun k_ => P0_ k_) from by repeat (first | (with_reducible first | exact HK.out | apply Kept.alloc | apply Kept.drewN | apply Kept.drew) | exact HK.out)).1) hn_))))); have n1_ := iC.mk (Kept.then_ (S := (fun k_ => P0_ k_)) (by repeat (first | (with_reducible first | exact HK.out | apply Kept.alloc | apply Kept.drewN | apply Kept.drew) | exact HK.out)) hkp (fun k_ hs_ => (fun e_ => (HO_0.out.1 k_ e_.symm)) hs_)); have n2_ := iC.mk (hb); clear HK; clear HB; clear HO_0; have HO162 := n0_; have HK := n1_; have HB := n2_; clear n0_ n1_ n2_; (try clear hb); (try clear hkp); (try clear ho0)))
          go_loopg [0, 6] k1 (fun kq v0 v6 w' => ∃ (x0_2 : List Int) (x6_2 : Int), v6 = .int .i64 x6_2 ∧ iC (stratumref07_Facts.l1 kq x0_2 l1 x5_1 x6_2 = some r) ∧ iC (kq ≤ k1) ∧ iC (Kd.R (Kd.int .u8) 5 w' w0.heap.size (fun k_ => (P0_ k_ ∨ w.heap.size ≤ k_)) v0 x0_2) ∧ iC (Kept w w' (fun k_ => P0_ k_)) ∧ iC (Below w0.heap.size w0 w'))
          case atStart => exact ⟨(t160), (0), (by first | rfl | (simp; done) | (simp [*]; done)), H', ⟨Nat.le_refl _⟩, ⟨by (with_reducible repeat (first | apply Kd.R_alloc | apply Kd.R_drewN | apply Kd.R_drew)); exact HO162.out⟩, ⟨by repeat (first | (with_reducible first | exact HK.out | apply Kept.alloc | apply Kept.drewN | apply Kept.drew) | exact HK.out)⟩, ⟨hb_⟩⟩
          case round =>
            clear H'
            try clear c1
            try clear p1
            try clear q1
            try clear hx1
            try clear p2
            try clear c5
            try clear c6
            try clear c6b0
            try clear c7
            try clear c7b0
            try clear hx159_0
            try clear hx159_1
            try clear p159
            try clear p2
            try clear q159
            obtain ⟨x0_2, x6_2, rfl, HA, HK2, HO_0, HK, HB⟩ := hrel
            cases gk with
            | zero => exact absurd HA.out (by simp [stratumref07_Facts.l1])
            | succ k2 =>
              have H := HA.out
              clear HA
              simp only [stratumref07_Facts.l1] at H
              by_cases c11 : 0 ≤ x5_1
              · rw [if_pos c11] at H
                have c11b0 : decide (0 ≤ x5_1) = true := decide_eq_true c11
                clear c11
                by_cases c12 : x5_1 < (l1.length : Int)
                · rw [if_pos c12] at H
                  have c12b0 : decide (x5_1 < (l1.length : Int)) = true := decide_eq_true c12
                  clear c12
                  by_cases c13 : x6_2 < (((iW l1 x5_1).f0).length : Int)
                  · rw [if_pos c13] at H
                    have c13b0 : decide (x6_2 < (((iW l1 x5_1).f0).length : Int)) = true := decide_eq_true c13
                    clear c13
                    by_cases c14 : 0 ≤ x6_2
                    · rw [if_pos c14] at H
                      have c14b0 : decide (0 ≤ x6_2) = true := decide_eq_true c14
                      clear c14
                      replace H := Option.bind_eq_some_iff.mp H
                      obtain ⟨t166, A150, H⟩ := H
                      replace H : (stratumref07_Facts.l1 k2 t166 l1 x5_1 (wrap64 (x6_2 + 1))) = some r := H
                      have A15 := iC.mk A150
                      clear A150
                      have H' := iC.mk H
                      clear H
                      have p163 : 0 ≤ (x5_1 : Int) := of_decide_eq_true asm_
                      have q163 : x5_1 < (l1.length : Int) := of_decide_eq_true asm_
                      obtain ⟨ad163, A163_0, c163_0, e163, hx163_0, hx163_1, hl163_0, hi163_0⟩ := kU (Kd.C_kept_now HR1.out HK.out) x5_1 p163 q163
                      obtain rfl : ad159 = ad163 := (by injection e163)
                      have HR163_0 := iC.mk hi163_0
                      have HC163_0 := iC.mk hl163_0
                      clear hi163_0 hl163_0
                      replace p163 := eq_true p163
                      replace q163 := eq_true q163
                      have p164 : 0 ≤ (x5_1 : Int) := of_decide_eq_true asm_
                      have q164 : x5_1 < (l1.length : Int) := of_decide_eq_true asm_
                      obtain ⟨ad164, A164_0, c164_0, e164, hx164_0, hx164_1, hl164_0, hi164_0⟩ := kU (Kd.C_kept_now HR1.out HK.out) x5_1 p164 q164
                      obtain rfl : ad159 = ad164 := (by injection e164)
                      have HR164_0 := iC.mk hi164_0
                      have HC164_0 := iC.mk hl164_0
                      clear hi164_0 hl164_0
                      replace p164 := eq_true p164
                      replace q164 := eq_true q164
                      have ea_ := Option.some.inj (hx163_0.symm.trans hx164_0)
                      injection ea_ with ea_ en_ ec_
                      subst ea_
                      subst ec_
                      clear en_
                      have p165 : 0 ≤ (x6_2 : Int) := of_decide_eq_true asm_
                      have q165 : x6_2 < (((iW l1 x5_1).f0).length : Int) := of_decide_eq_true asm_
                      obtain ⟨ad165, e165, hx165_0⟩ := Kd.at_int (by repeat (first | (with_reducible exact HR164_0.out) | (with_reducible refine Kd.C_alloc ?_ _) | (with_reducible refine Kd.C_drewN ?_ _) | (with_reducible refine Kd.C_drew ?_) | exact HR164_0.out)) x6_2 p165 q165
                      cases e165
                      replace p165 := eq_true p165
                      replace q165 := eq_true q165
                      obtain ⟨Ao16, co16, eo16⟩ := Kd.R_slice HO_0.out
                      subst eo16
                      go_wp2_with (first | ((with_reducible refine jM (f := 57) rfl ?_); refine mP (some 47) rfl rfl Tryd.func57 (by kernel_rfl) rfl #[.slice Ao16 x0_2.length co16, .int .u64 (IntKind.u64.wrap (rd ((iW l1 x5_1).f0) x6_2)), .int .i64 4] rfl (by (try simp only [List.map_toArray, List.map_cons, List.map_nil]); first | done | rfl | (simp only [List.length_drop, List.length_take]; rfl)) ?_; (with_reducible refine (stratumref07_Put.calls k2 (fun k_ => some k_ = (.slice Ao16 x0_2.length co16 : Value).ownBlock) (.slice Ao16 x0_2.length co16) x0_2 (IntKind.u64.wrap (rd ((iW l1 x5_1).f0) x6_2)) 4 t166 w0 _ ?side1 ?side2 A15.out).mono ?_); (case side1 => repeat (first | (with_reducible first | exact HB.out | apply iF | apply iG | apply iI) | exact HB.out)); (case side2 => exact Kd.R_tight rfl HO_0.out); rintro e w17 ⟨v167, rfl, ho0, hb, hkp⟩; refine ⟨_, rfl, ?_⟩; have n0_ := iC.mk (Kd.R_mono (ok' := fun k_ => (P0_ k_ ∨ w.heap.size ≤ k_)) ho0 (fun k_ hk_ => Or.elim hk_ (fun hs_ => (HO_0.out.1 k_ (hs_).symm)) (fun hn_ => (.inr (Nat.le_trans (by first | exact HK.out.1 | exact (show Kept w _ (fun k_ => P0_ k_) from by repeat (first | (with_reducible first | exact HK.out | apply Kept.alloc | apply Kept.drewN | apply Kept.drew) | exact HK.out)).1) hn_))))); have n1_ := iC.mk (Kept.then_ (S := (fun k_ => P0_ k_)) (by repeat (first | (with_reducible first | exact HK.out | apply Kept.alloc | apply Kept.drewN | apply Kept.drew) | exact HK.out)) hkp (fun k_ hs_ => (fun e_ => (HO_0.out.1 k_ e_.symm)) hs_)); have n2_ := iC.mk (hb); clear HK; clear HB; clear HO_0; have HO168 := n0_; have HK := n1_; have HB := n2_; clear n0_ n1_ n2_; (try clear hb); (try clear hkp); (try clear ho0)))
                      go_roundg k2
                      case measure => have := HK1.out; have := HK2.out; omega
                      case rel => exact ⟨(t166), (wrap64 (x6_2 + 1)), (by first | rfl | (simp; done) | (simp [*]; done)), H', ⟨by have := HK1.out; have := HK2.out; omega⟩, ⟨by (with_reducible repeat (first | apply Kd.R_alloc | apply Kd.R_drewN | apply Kd.R_drew)); exact HO168.out⟩, ⟨by repeat (first | (with_reducible first | exact HK.out | apply Kept.alloc | apply Kept.drewN | apply Kept.drew) | exact HK.out)⟩, ⟨hb_⟩⟩
                    · rw [if_neg c14] at H
                      exact absurd H (by simp)
                  · rw [if_neg c13] at H
                    have c13b0 : decide (x6_2 < (((iW l1 x5_1).f0).length : Int)) = false := decide_eq_false c13
                    clear c13
                    replace H := Option.bind_eq_some_iff.mp H
                    obtain ⟨t170, A180, H⟩ := H
                    replace H : (stratumref07_Facts.l0 k2 t170 l1 (wrap64 (x5_1 + 1))) = some r := H
                    have A18 := iC.mk A180
                    clear A180
                    have H' := iC.mk H
                    clear H
                    have p163 : 0 ≤ (x5_1 : Int) := of_decide_eq_true asm_
                    have q163 : x5_1 < (l1.length : Int) := of_decide_eq_true asm_
                    obtain ⟨ad163, A163_0, c163_0, e163, hx163_0, hx163_1, hl163_0, hi163_0⟩ := kU (Kd.C_kept_now HR1.out HK.out) x5_1 p163 q163
                    obtain rfl : ad159 = ad163 := (by injection e163)
                    have HR163_0 := iC.mk hi163_0
                    have HC163_0 := iC.mk hl163_0
                    clear hi163_0 hl163_0
                    replace p163 := eq_true p163
                    replace q163 := eq_true q163
                    have p169 : 0 ≤ (x5_1 : Int) := of_decide_eq_true asm_
                    have q169 : x5_1 < (l1.length : Int) := of_decide_eq_true asm_
                    obtain ⟨ad169, A169_0, c169_0, e169, hx169_0, hx169_1, hl169_0, hi169_0⟩ := kU (Kd.C_kept_now HR1.out HK.out) x5_1 p169 q169
                    obtain rfl : ad159 = ad169 := (by injection e169)
                    have HR169_0 := iC.mk hi169_0
                    have HC169_0 := iC.mk hl169_0
                    clear hi169_0 hl169_0
                    replace p169 := eq_true p169
                    replace q169 := eq_true q169
                    have ea_ := Option.some.inj (hx163_0.symm.trans hx169_0)
                    injection ea_ with ea_ en_ ec_
                    subst ea_
                    subst ec_
                    clear en_
                    obtain ⟨Ao19, co19, eo19⟩ := Kd.R_slice HO_0.out
                    subst eo19
                    go_wp2_with (first | ((with_reducible refine jM (f := 57) rfl ?_); refine mP (some 55) rfl rfl Tryd.func57 (by kernel_rfl) rfl #[.slice Ao19 x0_2.length co19, .int .u64 (IntKind.u64.wrap ((iW l1 x5_1).f1)), .int .i64 8] rfl (by (try simp only [List.map_toArray, List.map_cons, List.map_nil]); first | done | rfl | (simp only [List.length_drop, List.length_take]; rfl)) ?_; (with_reducible refine (stratumref07_Put.calls k2 (fun k_ => some k_ = (.slice Ao19 x0_2.length co19 : Value).ownBlock) (.slice Ao19 x0_2.length co19) x0_2 (IntKind.u64.wrap ((iW l1 x5_1).f1)) 8 t170 w0 _ ?side1 ?side2 A18.out).mono ?_); (case side1 => repeat (first | (with_reducible first | exact HB.out | apply iF | apply iG | apply iI) | exact HB.out)); (case side2 => exact Kd.R_tight rfl HO_0.out); rintro e w20 ⟨v171, rfl, ho0, hb, hkp⟩; refine ⟨_, rfl, ?_⟩; have n0_ := iC.mk (Kd.R_mono (ok' := fun k_ => (P0_ k_ ∨ w.heap.size ≤ k_)) ho0 (fun k_ hk_ => Or.elim hk_ (fun hs_ => (HO_0.out.1 k_ (hs_).symm)) (fun hn_ => (.inr (Nat.le_trans (by first | exact HK.out.1 | exact (show Kept w _ (fun k_ => P0_ k_) from by repeat (first | (with_reducible first | exact HK.out | apply Kept.alloc | apply Kept.drewN | apply Kept.drew) | exact HK.out)).1) hn_))))); have n1_ := iC.mk (Kept.then_ (S := (fun k_ => P0_ k_)) (by repeat (first | (with_reducible first | exact HK.out | apply Kept.alloc | apply Kept.drewN | apply Kept.drew) | exact HK.out)) hkp (fun k_ hs_ => (fun e_ => (HO_0.out.1 k_ e_.symm)) hs_)); have n2_ := iC.mk (hb); clear HK; clear HB; clear HO_0; have HO172 := n0_; have HK := n1_; have HB := n2_; clear n0_ n1_ n2_; (try clear hb); (try clear hkp); (try clear ho0)))
                    go_roundg k2
                    case measure => have := HK1.out; have := HK2.out; omega
                    case rel => exact ⟨(t170), (wrap64 (x5_1 + 1)), (by first | rfl | (simp; done) | (simp [*]; done)), H', ⟨by have := HK1.out; have := HK2.out; omega⟩, ⟨by (with_reducible repeat (first | apply Kd.R_alloc | apply Kd.R_drewN | apply Kd.R_drew)); exact HO172.out⟩, ⟨by repeat (first | (with_reducible first | exact HK.out | apply Kept.alloc | apply Kept.drewN | apply Kept.drew) | exact HK.out)⟩, ⟨hb_⟩⟩
                · rw [if_neg c12] at H
                  exact absurd H (by simp)
              · rw [if_neg c11] at H
                exact absurd H (by simp)
        · rw [if_neg c7] at H
          exact absurd H (by simp)
      · rw [if_neg c6] at H
        have c6b0 : decide (x5_1 < (l1.length : Int)) = false := decide_eq_false c6
        clear c6
        obtain rfl := Option.some.inj H
        go_wp2
        go_ret
        exact ⟨_, by first | rfl | (simp [iP, iO] <;> rfl) | (simp [*, iP, iO] <;> rfl), by (with_reducible repeat (first | apply Kd.R_alloc | apply Kd.R_drewN | apply Kd.R_drew)); exact HO_0.out, hb_, by repeat (first | (with_reducible first | exact HK.out | apply Kept.alloc | apply Kept.drewN | apply Kept.drew) | exact HK.out)⟩
end Go.Proofs.YtgfkgppomaapiaaDoor.K
end

section
namespace Go.Proofs.YtgfkgppomaapiaaDoor.K
open RowKit YtgfkgppomaapiaaDoorW.PrintWords YtgfkgppomaapiaaDoorW.PrintLast YtgfkgppomaapiaaDoorW.PrintMore My
theorem wrap_u64 (x : Int) : IntKind.u64.wrap x = x % 18446744073709551616 := by rfl
theorem TD (x : Int) (m : Nat) (hm : m < 8) : (shr .u64 (IntKind.u64.wrap x) (8 * (m : Int))) % 256 = (x / 256 ^ m) % 256 := by
  rw [wrap_u64]
  have h : m = 0 ∨ m = 1 ∨ m = 2 ∨ m = 3 ∨ m = 4 ∨ m = 5 ∨ m = 6 ∨ m = 7 := by omega
  unfold shr
  rw [show IntKind.u64.bits = 64 from rfl]
  rcases h with rfl | rfl | rfl | rfl | rfl | rfl | rfl | rfl <;> simp <;> omega
theorem nums_append (l m : List UInt8) : nums (l ++ m) = nums l ++ nums m := List.map_append ..
theorem PS (b : UInt8) (l : List UInt8) : nums (b :: l) = (b.toNat : Int) :: nums l := rfl
theorem XE (v : Int) : ((UInt8.ofNat (v % 256).toNat).toNat : Int) = v % 256 := by
  rw [UInt8.toNat_ofNat']
  omega
theorem QS (x : Int) : ∀ (n : Nat) (l : List Int), n ≤ 8 → l.length + n ≤ 140737488355328 → Ev (fun k => stratumref07_Put.l0 k l (IntKind.u64.wrap x) ((n : Int) - 1)) (l ++ nums (layB x n))
  | 0, l, _, _ => by
    refine Ev.step (f := fun _ => some l) (fun k => by simp only [stratumref07_Put.l0]; rw [if_neg (by omega)]) ?_
    simp only [layB, nums, List.map_nil, List.append_nil]
    exact Ev.now _
  | n + 1, l, hn, hl => by
    have e1 : ((n + 1 : Nat) : Int) - 1 = n := by omega
    have e2 : IntKind.u64.wrap ((n : Nat) : Int) = n := by rw [wrap_u64]; omega
    have e3 : IntKind.u64.wrap (8 * (n : Int)) = 8 * n := by rw [wrap_u64]; omega
    have e4 : wrap64 ((n : Int) - 1) = n - 1 := by unfold wrap64; omega
    rw [e1, layB, PS, XE]
    refine Ev.step (f := fun k => stratumref07_Put.l0 k (l ++ [x / 256 ^ n % 256]) (IntKind.u64.wrap x) ((n : Int) - 1)) (fun k => by simp only [stratumref07_Put.l0]; rw [if_pos (by omega), e2, e3, if_pos (by omega), if_pos (by omega), TD x n (by omega), e4]) ?_
    have := QS x n (l ++ [x / 256 ^ n % 256]) (by omega) (by rw [List.length_append]; simp only [List.length_cons, List.length_nil]; omega)
    rw [List.append_assoc] at this
    exact this
theorem xK (x : Int) (n : Nat) (l : List Int) (hn : n ≤ 8) (hl : l.length + n ≤ 140737488355328) : Ev (fun k => stratumref07_Put.f k l (IntKind.u64.wrap x) (n : Int)) (l ++ nums (layB x n)) := by
  unfold stratumref07_Put.f
  rw [show wrap64 ((n : Int) - 1) = n - 1 from by unfold wrap64; omega]
  exact QS x n l hn hl
theorem O3 (l1 : List Int) (hn : l1.length ≤ 9223372036854775807) (d : Nat) : ∀ (i : Int) (l : List Int), 0 ≤ i → i ≤ l1.length → (l1.length : Int) - i = d → l.length + d ≤ 140737488355328 → Ev (fun k => stratumref07_Nodes.l0 k l l1 i) (l ++ nums ((l1.drop i.toNat).flatMap (layB · 1))) := by
  induction d with
  | zero =>
    intro i l h0 h1 hd hl
    rw [drop_end _ i (by omega)]
    refine Ev.step (f := fun _ => some l) (fun k => by simp only [stratumref07_Nodes.l0]; rw [if_neg (by omega)]) ?_
    simp only [List.flatMap_nil, nums, List.map_nil, List.append_nil]
    exact Ev.now _
  | succ d ih =>
    intro i l h0 h1 hd hl
    have hlt : i < (l1.length : Int) := by omega
    rw [qK 0 l1 i (by omega) h0, List.flatMap_cons, nums_append, ← List.append_assoc]
    refine Ev.step (f := fun k => (stratumref07_Put.f k l (IntKind.u64.wrap (rd l1 i)) 1).bind fun t => stratumref07_Nodes.l0 k t l1 (i + 1)) (fun k => by simp only [stratumref07_Nodes.l0]; rw [if_pos hlt, if_pos h0, nS h0 hlt hn]) ?_
    exact Ev.bind (xK (rd l1 i) 1 l (by omega) (by omega)) (ih (i + 1) _ (by omega) (by omega) (by omega) (by rw [List.length_append, jC, iL]; omega))
theorem PX (l1 : List Int) (l : List Int) (hl : l.length + (lY l1).length ≤ 140737488355328) : Ev (fun k => stratumref07_Nodes.f k l l1) (l ++ nums (lY l1)) := by
  have hlen : (lY l1).length = 1 + l1.length := by
    unfold lY
    rw [List.length_append, iL]
    congr 1
    induction l1 with
    | nil => rfl
    | cons x l ih => rw [List.flatMap_cons, List.length_append, iL, List.length_cons]; have := ih (by rw [show (lY l).length = 1 + (l.flatMap (layB · 1)).length from by unfold lY; rw [List.length_append, iL]]; rw [show (lY (x :: l)).length = 1 + (1 + (l.flatMap (layB · 1)).length) from by unfold lY; rw [List.length_append, iL, List.flatMap_cons, List.length_append, iL]] at hl; omega); omega
  unfold lY
  rw [nums_append, ← List.append_assoc]
  exact Ev.bind (xK (l1.length : Int) 1 l (by omega) (by omega)) (O3 l1 (by omega) l1.length 0 _ (by omega) (by omega) (by omega) (by rw [List.length_append, jC, iL]; omega))
theorem U0 (l1 : List jQ) (i : Int) (h0 : 0 ≤ i) (hlt : i < l1.length) (hn : l1.length ≤ 9223372036854775807) (hk : (iW l1 i).f0.length ≤ 9223372036854775807) (R : List Int)
    (m : Nat) (hR : ∀ l : List Int, l.length + m ≤ 140737488355328 → Ev (fun k => stratumref07_Facts.l0 k l l1 (i + 1)) (l ++ R)) (d : Nat) : ∀ (j : Int) (l : List Int), 0 ≤ j → j ≤ (iW l1 i).f0.length → ((iW l1 i).f0.length : Int) - j = d → l.length + 4 * d + 8 + m ≤ 140737488355328 →
    Ev (fun k => stratumref07_Facts.l1 k l l1 i j) (l ++ nums (((iW l1 i).f0.drop j.toNat).flatMap (layB · 4)) ++ nums (layB (iW l1 i).f1 8) ++ R) := by
  induction d with
  | zero =>
    intro j l g0 g1 hd hl
    rw [drop_end _ j (by omega)]
    refine Ev.step (f := fun k => (stratumref07_Put.f k l (IntKind.u64.wrap (iW l1 i).f1) 8).bind fun t => stratumref07_Facts.l0 k t l1 (i + 1)) (fun k => by simp only [stratumref07_Facts.l1]; rw [if_pos h0, if_pos hlt, if_neg (by omega), nS h0 hlt hn]) ?_
    simp only [List.flatMap_nil, nums, List.map_nil, List.append_nil]
    exact Ev.bind (xK _ 8 l (by omega) (by omega)) (hR _ (by rw [List.length_append, jC, iL]; omega))
  | succ d ih =>
    intro j l g0 g1 hd hl
    have hj : j < ((iW l1 i).f0.length : Int) := by omega
    rw [qK 0 _ j (by omega) g0, List.flatMap_cons, nums_append, ← List.append_assoc l]
    refine Ev.step (f := fun k => (stratumref07_Put.f k l (IntKind.u64.wrap (rd (iW l1 i).f0 j)) 4).bind fun t => stratumref07_Facts.l1 k t l1 i (j + 1)) (fun k => by simp only [stratumref07_Facts.l1]; rw [if_pos h0, if_pos hlt, if_pos hj, if_pos g0, nS g0 hj hk]) ?_
    exact Ev.bind (xK _ 4 l (by omega) (by omega)) (ih (j + 1) _ (by omega) (by omega) (by omega) (by rw [List.length_append, jC, iL]; omega))
theorem O4 (l1 : List jQ) (hn : l1.length ≤ 9223372036854775807) (hk : ∀ f ∈ l1, f.f0.length ≤ 9223372036854775807) (d : Nat) : ∀ (i : Int) (l : List Int), 0 ≤ i → i ≤ l1.length → (l1.length : Int) - i = d → l.length + ((l1.drop i.toNat).flatMap nV).length ≤ 140737488355328 →
    Ev (fun k => stratumref07_Facts.l0 k l l1 i) (l ++ nums ((l1.drop i.toNat).flatMap nV)) := by
  induction d with
  | zero =>
    intro i l h0 h1 hd hl
    rw [drop_end _ i (by omega)]
    refine Ev.step (f := fun _ => some l) (fun k => by simp only [stratumref07_Facts.l0]; rw [if_neg (by omega)]) ?_
    simp only [List.flatMap_nil, nums, List.map_nil, List.append_nil]
    exact Ev.now _
  | succ d ih =>
    intro i l h0 h1 hd hl
    have hlt : i < (l1.length : Int) := by omega
    have hm : iW l1 i ∈ l1 := by
      unfold iW
      rw [List.getD_eq_getElem?_getD, List.getElem?_eq_getElem (show i.toNat < l1.length by omega)]
      exact List.getElem_mem _
    rw [qK z139 l1 i (by omega) h0, List.flatMap_cons, show l1.getD i.toNat z139 = iW l1 i from rfl] at hl ⊢
    rw [List.length_append, xH] at hl
    rw [nums_append]
    refine Ev.step (f := fun k => (stratumref07_Put.f k l (IntKind.u64.wrap ((iW l1 i).f0.length : Int)) 1).bind fun t => stratumref07_Facts.l1 k t l1 i 0) (fun k => by simp only [stratumref07_Facts.l0]; rw [if_pos hlt, if_pos h0]) ?_
    have hr := U0 l1 i h0 hlt hn (hk _ hm) (nums ((l1.drop (i + 1).toNat).flatMap nV)) ((l1.drop (i + 1).toNat).flatMap nV).length (fun t ht => ih (i + 1) t (by omega) (by omega) (by omega) ht) (iW l1 i).f0.length 0 (l ++ nums (layB ((iW l1 i).f0.length : Int) 1)) (by omega) (by omega) (by omega) (by rw [List.length_append, jC, iL]; omega)
    have e : l ++ (nums (nV (iW l1 i)) ++ nums ((l1.drop (i + 1).toNat).flatMap nV)) = l ++ nums (layB ((iW l1 i).f0.length : Int) 1) ++ nums (((iW l1 i).f0.drop (0 : Int).toNat).flatMap (layB · 4)) ++ nums (layB (iW l1 i).f1 8) ++ nums ((l1.drop (i + 1).toNat).flatMap nV) := by
      unfold nV
      rw [nums_append, nums_append]
      simp only [List.append_assoc]
      rfl
    rw [e]
    exact Ev.bind (xK _ 1 l (by omega) (by omega)) hr
theorem RY (l1 : List jQ) : (kH l1).length = 4 + (l1.flatMap nV).length := by unfold kH; rw [List.length_append, iL]
theorem V9 (l1 : List jQ) : 9 * l1.length ≤ (l1.flatMap nV).length ∧ ∀ f ∈ l1, 4 * f.f0.length ≤ (l1.flatMap nV).length := by
  induction l1 with
  | nil => exact ⟨by simp, fun f h => by cases h⟩
  | cons x l ih =>
    rw [List.flatMap_cons, List.length_append, xH, List.length_cons]
    refine ⟨by omega, fun f hf => ?_⟩
    rcases List.mem_cons.1 hf with rfl | hf
    · omega
    · have := ih.2 f hf; omega
theorem xM (l1 : List jQ) (l : List Int) (hl : l.length + (kH l1).length ≤ 140737488355328) : Ev (fun k => stratumref07_Facts.f k l l1) (l ++ nums (kH l1)) := by
  rw [RY] at hl
  have hg := V9 l1
  unfold kH
  rw [nums_append, ← List.append_assoc]
  exact Ev.bind (xK (l1.length : Int) 4 l (by omega) (by omega)) (O4 l1 (by omega) (fun f hf => by have := hg.2 f hf; omega) l1.length 0 _ (by omega) (by omega) (by omega) (by rw [List.length_append, jC, iL]; show _ + (l1.flatMap nV).length ≤ _; omega))
end Go.Proofs.YtgfkgppomaapiaaDoor.K
end

section
namespace Go.Proofs.YtgfkgppomaapiaaDoor.K
open RowKit YtgfkgppomaapiaaDoorW.PrintWords YtgfkgppomaapiaaDoorW.PrintLast YtgfkgppomaapiaaDoorW.PrintMore My
def IJ (P0 : Nat → Prop) (r : List Int) (w0 w : World) (e : Ending) (w' : World) : Prop :=
  ∃ v' : Value, e = .returned v' ∧ Kd.R (Kd.int .u8) 5 w' w0.heap.size (fun k => P0 k ∨ w.heap.size ≤ k) v' r ∧ Below w0.heap.size w0 w' ∧ Kept w w' P0
theorem kV (P0 : Nat → Prop) (v : Value) (l : List Int) (x X : Int) (n : Nat) (nI : Int) (w0 w : World) (hX : X = IntKind.u64.wrap x) (hI : nI = n) (hn : n ≤ 8) (hl : l.length + n ≤ 140737488355328) (hB : Below w0.heap.size w0 w) (ho : Kd.R (Kd.int .u8) 5 w w0.heap.size P0 v l) :
    Calls Tryd.prog 57 #[v, .int .u64 X, .int .i64 nI] w (IJ P0 (l ++ nums (layB x n)) w0 w) := by
  subst hI; subst hX
  obtain ⟨k, hk⟩ := (xK x n l hn hl).rounds
  exact stratumref07_Put.calls k P0 v l _ _ _ w0 w hB ho hk
theorem zY (P0 : Nat → Prop) (v : Value) (l : List Int) (A1 : Option Addr) (c1 : Nat) (l1 : List Int) (w0 w : World) (hl : l.length + (lY l1).length ≤ 140737488355328) (hB : Below w0.heap.size w0 w) (ho : Kd.R (Kd.int .u8) 5 w w0.heap.size P0 v l) (hr1 : ∀ W_, Kept w W_ (fun k_ => P0 k_) → Kd.C (Kd.int .i64) W_ A1 l1.length l1) (hc1 : l1.length ≤ c1) :
    Calls Tryd.prog 58 #[v, .slice A1 l1.length c1] w (IJ P0 (l ++ nums (lY l1)) w0 w) := by
  obtain ⟨k, hk⟩ := (PX l1 l hl).rounds
  exact stratumref07_Nodes.calls k P0 v l A1 c1 l1 _ w0 w hB ho hr1 hc1 hk
theorem yZ (P0 : Nat → Prop) (v : Value) (l : List Int) (A1 : Option Addr) (c1 : Nat) (l1 : List jQ) (w0 w : World) (hl : l.length + (kH l1).length ≤ 140737488355328) (hB : Below w0.heap.size w0 w) (ho : Kd.R (Kd.int .u8) 5 w w0.heap.size P0 v l) (hr1 : ∀ W_, Kept w W_ (fun k_ => P0 k_) → Kd.C k139 W_ A1 l1.length l1) (hc1 : l1.length ≤ c1) :
    Calls Tryd.prog 59 #[v, .slice A1 l1.length c1] w (IJ P0 (l ++ nums (kH l1)) w0 w) := by
  obtain ⟨k, hk⟩ := (xM l1 l hl).rounds
  exact stratumref07_Facts.calls k P0 v l A1 c1 l1 _ w0 w hB ho hr1 hc1 hk
theorem zJ (l : List jG) (k : Nat) (h : k < l.length) : (l.take (k + 1)).flatMap lM = (l.take k).flatMap lM ++ (layB (iQ l k).f0 4 ++ kH (iQ l k).f1) := by
  rw [mD z86 l k h, List.flatMap_append]
  congr 1
  simp only [List.flatMap_cons, List.flatMap_nil, List.append_nil]
  rfl
theorem QW (l : List jG) (k : Nat) (h : k < l.length) : ((l.take k).flatMap lM).length + 4 + (kH (iQ l k).f1).length ≤ (l.flatMap lM).length := by
  have e : l = l.take (k + 1) ++ l.drop (k + 1) := (List.take_append_drop _ _).symm
  conv => rhs; rw [e]
  rw [List.flatMap_append, zJ l k h]
  simp only [List.length_append, iL]
  omega
theorem xA (l : List jG) : (jS l).length = 4 + (l.flatMap lM).length := by unfold jS; rw [List.length_append, iL]
theorem JY (l : List jG) : l.length ≤ (jS l).length := by
  rw [xA]
  induction l with
  | nil => simp
  | cons e l ih =>
    rw [List.flatMap_cons, List.length_append, List.length_cons]
    have : 4 ≤ (lM e).length := by unfold lM; rw [List.length_append, iL]; omega
    omega
set_option maxRecDepth 20000 in
set_option maxHeartbeats 4000000 in
theorem vZ (P0 : Nat → Prop) (v : Value) (l0 : List Int) (A1 : Option Addr) (c1 : Nat) (l1 : List jG) (w0 w : World) (hl : l0.length + (jS l1).length ≤ 140737488355328) (hB : Below w0.heap.size w0 w) (ho : Kd.R (Kd.int .u8) 5 w w0.heap.size P0 v l0) (hP : ∀ k, P0 k → w0.heap.size ≤ k) (hr1 : Kd.C k86 w0 A1 l1.length l1) (hc1 : l1.length ≤ c1) :
    Calls Tryd.prog 60 #[v, .slice A1 l1.length c1] w (IJ P0 (l0 ++ nums (jS l1)) w0 w) := by
  have HO := iC.mk (show Kd.R (Kd.int .u8) 5 w w0.heap.size (fun k => P0 k ∨ w.heap.size ≤ k) v l0 from Kd.R_mono ho (fun _ h => .inl h))
  have HR := iC.mk hr1
  have HP := iC.mk (show ∀ k, (P0 k ∨ w.heap.size ≤ k) → w0.heap.size ≤ k from fun k h => h.elim (hP k) (Nat.le_trans hB.size))
  have HB := iC.mk hB
  have HL := iC.mk hl
  have HK := iC.mk (Kept.refl w P0)
  have hge := JY l1
  have hmax : l1.length ≤ 140737488355328 := by omega
  rw [xA] at hl
  clear hr1 hB ho hge hP
  obtain ⟨Ao, co, rfl⟩ := Kd.R_slice HO.out
  go_enter Tryd.func60, Tryd.ntmps60
  go_wp2_with fail
  refine (kV _ _ l0 (l1.length : Int) _ 4 4 w0 _ (by rw [wrap_u64]; omega) rfl (by omega) (by omega) HB.out HO.out).mono ?_
  rintro e w1 ⟨v1, rfl, ho1, hb1, hk1⟩
  have HO1 := iC.mk (Kd.R_mono (ok' := fun k => P0 k ∨ w.heap.size ≤ k) ho1 (fun k h => h.elim id .inr))
  have HB1 := iC.mk hb1
  have HK1 := iC.mk (HK.out.then_ hk1 (fun _ h => h))
  clear ho1 hb1 hk1
  go_wp2_with fail
  go_loopg [0, 5] l1.length (fun gg s0 s5 wr => ∃ k : Nat, k ≤ l1.length ∧ l1.length - k ≤ gg ∧ s5 = .int .i64 k ∧ iC (Kd.R (Kd.int .u8) 5 wr w0.heap.size (fun k => P0 k ∨ w.heap.size ≤ k) s0 (l0 ++ nums (layB (l1.length : Int) 4) ++ nums ((l1.take k).flatMap lM))) ∧ iC (Below w0.heap.size w0 wr) ∧ iC (Kept w wr P0))
  case atStart => exact ⟨0, Nat.zero_le _, by omega, rfl, ⟨by simpa [nums] using HO1.out⟩, HB1, HK1⟩
  case round =>
    clear HO1 HB1 HK1 HO HB HK
    obtain ⟨k, hk, hg, rfl, HO, HB, HK⟩ := hrel
    obtain ⟨Ao, co, rfl⟩ := Kd.R_slice HO.out
    by_cases hlt : k < l1.length
    · have hln := QW l1 k hlt
      have HT := iC.mk (zJ l1 k hlt)
      obtain ⟨L, hL⟩ : ∃ L, L = l0 ++ nums (layB (l1.length : Int) 4) ++ nums ((l1.take k).flatMap lM) := ⟨_, rfl⟩
      have hLl : L.length + 4 + (kH (iQ l1 k).f1).length ≤ 140737488355328 := by rw [hL]; simp only [List.length_append, jC, iL]; omega
      rw [← hL] at HO ⊢
      have HLq := iC.mk hL
      clear hL hln
      obtain ⟨ad, A', c', eA, gx0, gx1, hl', hC'⟩ := kZ HR.out k (by omega) (by omega)
      cases eA
      simp only [Int.toNat_natCast] at gx0 gx1
      have hx0 := jW HB.out gx0
      have hx1 := jW HB.out gx1
      have HC' := iC.mk hC'
      have HG := iC.mk (And.intro gx0 gx1)
      clear hC' gx0 gx1
      have hcall := kV (fun k => P0 k ∨ w.heap.size ≤ k) (.slice Ao L.length co) L (iQ l1 k).f0 (IntKind.u64.wrap (iQ l1 k).f0) 4 4 w0 wr rfl rfl (by omega) (by omega) HB.out HO.out
      go_wp2_with fail
      go_at_call 57
      (with_reducible refine hcall.mono ?_)
      clear hcall
      rintro e w2 ⟨v2, rfl, ho2, hb2, hk2⟩
      have HO2 := iC.mk (Kd.R_mono (ok' := fun k => P0 k ∨ w.heap.size ≤ k) ho2 (fun k h => h.elim id (fun h => .inr (Nat.le_trans HK.out.1 h))))
      have HB2 := iC.mk hb2
      have HK2 := iC.mk (HK.out.then_ hk2 (fun _ h => h))
      clear ho2 hb2 hk2 hx0 hx1
      have hx0 := jW HB2.out HG.out.1
      have hx1 := jW HB2.out HG.out.2
      obtain ⟨Ao2, co2, rfl⟩ := Kd.R_slice HO2.out
      have hlen2 : (L ++ nums (layB (iQ l1 k).f0 4)).length + (kH (iQ l1 k).f1).length ≤ 140737488355328 := by rw [List.length_append, jC, iL]; omega
      have HE := iC.mk (show (L ++ nums (layB (iQ l1 k).f0 4)) ++ nums (kH (iQ l1 k).f1) = l0 ++ nums (layB (l1.length : Int) 4) ++ nums ((l1.take (k + 1)).flatMap lM) from by rw [HT.out, HLq.out, nums_append, nums_append]; simp only [List.append_assoc])
      generalize (L ++ nums (layB (iQ l1 k).f0 4)) = L2 at *
      have hcall := yZ (fun k => P0 k ∨ w.heap.size ≤ k) (.slice Ao2 L2.length co2) L2 A' c' (iQ l1 k).f1 w0 w2 hlen2 HB2.out HO2.out (Kd.C_kept_came qZ HC'.out HB2.out HP.out) hl'
      go_wp2_with fail
      go_at_call 59
      (with_reducible refine hcall.mono ?_)
      clear hcall
      rintro e w3 ⟨v3, rfl, ho3, hb3, hk3⟩
      have HO3 := iC.mk (Kd.R_mono (ok' := fun k => P0 k ∨ w.heap.size ≤ k) ho3 (fun k h => h.elim id (fun h => .inr (Nat.le_trans HK2.out.1 h))))
      have HB3 := iC.mk hb3
      have HK3 := iC.mk (HK2.out.then_ hk3 (fun _ h => h))
      clear ho3 hb3 hk3 hx0 hx1
      go_wp2_with fail
      go_roundg (l1.length - (k + 1))
      case measure => omega
      case rel => exact ⟨k + 1, by omega, by omega, by go_num, ⟨by rw [← HE.out]; exact HO3.out⟩, HB3, HK3⟩
    · have : k = l1.length := by omega
      subst this
      have HE := iC.mk (show l0 ++ nums (layB (l1.length : Int) 4) ++ nums ((l1.take l1.length).flatMap lM) = l0 ++ nums (jS l1) from by rw [List.take_length, List.append_assoc, ← nums_append]; rfl)
      go_wp2
      go_ret
      exact ⟨_, rfl, by rw [← HE.out]; exact HO.out, HB.out, HK.out⟩
def stratumref07_Entries.f (l0 : List Int) (l1 : List jG) : Option (List Int) := if l0 = [] ∧ (jS l1).length ≤ 140737488355328 then some (nums (jS l1)) else none
theorem stratumref07_Entries.calls0 (A1 : Option Addr) (c1 : Nat) (l1 : List jG) (r : List Int) (w : World) (_hr0 : Kd.C (Kd.int .u8) w none ([] : List Int).length []) (_hc0 : 0 ≤ 0) (hr1 : Kd.C k86 w A1 l1.length l1) (hc1 : l1.length ≤ c1) (h : stratumref07_Entries.f ([] : List Int) l1 = some r) :
    Calls Tryd.prog 60 #[.slice none 0 0, .slice A1 l1.length c1] w fun e w' => ∃ v0_ : Value, e = .returned (v0_) ∧ Kd.R (Kd.int .u8) 5 w' w.heap.size (fun _ => True) v0_ r ∧ Below w.heap.size w w' := by
  unfold stratumref07_Entries.f at h
  split at h
  case isFalse => cases h
  rename_i hl
  obtain rfl := Option.some.inj h
  refine (vZ (fun _ => False) (.slice none 0 0) [] A1 c1 l1 w w (by simpa using hl.2) (Below.refl _ _) (Kd.R_nil _ _ _ _ _) (fun _ h => h.elim) hr1 hc1).mono ?_
  rintro e w' ⟨v', rfl, h1, h2, _⟩
  exact ⟨v', rfl, Kd.R_mono h1 (fun _ _ => trivial), h2⟩
end Go.Proofs.YtgfkgppomaapiaaDoor.K
end

section
namespace Go.Proofs.YtgfkgppomaapiaaDoor.K
open RowKit YtgfkgppomaapiaaDoorW.PrintWords YtgfkgppomaapiaaDoorW.PrintLast YtgfkgppomaapiaaDoorW.PrintMore My
theorem kP {w1 w2 : World} {B : Nat} {o : Obj} (hk : Kept w1 w2 (fun k => B < k)) (hx : w1.heap[B]? = some o) : w2.heap[B]? = some o := (hk.2 B (jE hx) (Nat.lt_irrefl B)).trans hx
theorem JU (w : World) (base : Nat) (x : Int) (B : Nat) (hb : base ≤ w.heap.size) (hB : B < w.heap.size) : Kd.R (Kd.int .u8) 5 (w.alloc (.cells #[.int .u8 x] 5)) base (fun k => B < k) (.slice (some ⟨w.heap.size, 0, none⟩) 1 1) [x] := by
  refine Kd.R_of_own (enc := Value.int .u8) (h1 := fun _ => rfl) ⟨rfl, .inr ⟨w.heap.size, 1, #[.int .u8 x], rfl, hb, iM rfl, Nat.le_refl _, by unfold maxLen; omega, rfl, rfl⟩⟩ ?_
  intro k hk
  have : w.heap.size = k := by simpa [Value.ownBlock] using hk
  omega
def nU (w : World) (r : List Int × Int) (e : Ending) (w' : World) : Prop := ∃ v0_ : Value, e = .returned (.tuple #[v0_, .int .i64 r.2]) ∧ Kd.R (Kd.int .u8) 5 w' w.heap.size (fun _ => True) v0_ r.1 ∧ Below w.heap.size w w'
theorem qQ {w : World} {A4 A9 : Option Addr} {l3 : List Int} {l4 : List jQ} {l6 : List kC} {l9 : List jG} {A3 A6 : Option Addr} (h3 : Kd.C (Kd.int .i64) w A3 l3.length l3) (h4 : Kd.C k139 w A4 l4.length l4) (h6 : Kd.C k98 w A6 l6.length l6) (h9 : Kd.C k86 w A9 l9.length l9) : V3 l3 l4 l6 l9 := by
  have key : ∀ {A : Option Addr} {l : List jQ}, Kd.C k139 w A l.length l → ∀ f ∈ l, f.f0.length ≤ 9223372036854775807 := by
    intro A l h f hf
    obtain ⟨i, hi, rfl⟩ := List.getElem_of_mem hf
    obtain ⟨_, _, _, _, _, _, _, hC⟩ := kU h i (by omega) (by omega)
    have e : iW l i = l[i] := by unfold iW; rw [Int.toNat_natCast, List.getD_eq_getElem?_getD, List.getElem?_eq_getElem hi]; rfl
    rw [e] at hC
    exact kQ hC
  refine ⟨kQ h3, kQ h4, key h4, kQ h6, kQ h9, fun e he => ?_⟩
  obtain ⟨i, hi, rfl⟩ := List.getElem_of_mem he
  obtain ⟨_, _, _, _, _, _, _, hC⟩ := kZ h9 i (by omega) (by omega)
  have e : iQ l9 i = l9[i] := by unfold iQ; rw [Int.toNat_natCast, List.getD_eq_getElem?_getD, List.getElem?_eq_getElem hi]; rfl
  rw [e] at hC
  exact ⟨kQ hC, key hC⟩
section
variable (a1 a2 : Int) (A3 : Option Addr) (c3 : Nat) (l3 : List Int) (A4 : Option Addr) (c4 : Nat) (l4 : List jQ) (a5 : Int) (A6 : Option Addr) (c6 : Nat) (l6 : List kC) (a7 a8 : Int) (A9 : Option Addr) (c9 : Nat) (l9 : List jG) (w : World)
    (h3 : Kd.C (Kd.int .i64) w A3 l3.length l3) (d3 : l3.length ≤ c3) (h4 : Kd.C k139 w A4 l4.length l4) (d4 : l4.length ≤ c4) (h6 : Kd.C k98 w A6 l6.length l6) (d6 : l6.length ≤ c6) (h9 : Kd.C k86 w A9 l9.length l9) (d9 : l9.length ≤ c9)
include h3 d3 h4 d4 h6 d6 h9 d9
set_option maxHeartbeats 8000000 in
set_option maxRecDepth 20000 in
theorem Q5 (hs : jJ ⟨1, a1, a2, l3, l4, ⟨a5, l6⟩, a7, a8, l9⟩ = true) : Calls Tryd.prog 18 #[.agg #[.int .u8 1, .int .u32 a1, .int .u32 a2, .slice A3 l3.length c3, .slice A4 l4.length c4, .int .u32 a5, .slice A6 l6.length c6, .int .i64 a7, .int .i64 a8, .slice A9 l9.length c9]] w (nU w (encR ⟨1, a1, a2, l3, l4, ⟨a5, l6⟩, a7, a8, l9⟩)) := by
  obtain ⟨kk, hsk⟩ := (oN 1 a1 a2 l3 l4 a5 l6 a7 a8 l9 (qQ h3 h4 h6 h9)).rounds
  rw [hs] at hsk
  have H3 := iC.mk h3; have H4 := iC.mk h4; have H6 := iC.mk h6; have H9 := iC.mk h9
  have hbw : Below w.heap.size w (w.alloc (.cells #[.int .u8 1, .int .u32 a1, .int .u32 a2, .slice A3 l3.length c3, .slice A4 l4.length c4, .int .u32 a5, .slice A6 l6.length c6, .int .i64 a7, .int .i64 a8, .slice A9 l9.length c9] 30)) := iF (Below.refl _ _) _
  have hsnd := stratumref07_Sound.calls kk 1 a1 a2 A3 c3 l3 A4 c4 l4 a5 A6 c6 l6 a7 a8 A9 c9 l9 true (w.alloc (.cells #[.int .u8 1, .int .u32 a1, .int .u32 a2, .slice A3 l3.length c3, .slice A4 l4.length c4, .int .u32 a5, .slice A6 l6.length c6, .int .i64 a7, .int .i64 a8, .slice A9 l9.length c9] 30)) (Kd.C_below h3 hbw) d3 (Kd.C_below h4 hbw) d4 (Kd.C_below h6 hbw) d6 (Kd.C_below h9 hbw) d9 hsk
  have HS := iC.mk hs
  have q3 : l3.length ≤ 6 ∧ (kH l4).length ≤ 5004 := by
    have h := HS.out
    rw [QB, Bool.and_eq_true, Bool.and_eq_true] at h
    exact ⟨oV _ h.1.1, uF _ h.1.2⟩
  unfold encR
  rw [if_pos HS.out]
  obtain ⟨X, hX⟩ : ∃ X : List UInt8, X = recE ⟨1, a1, a2, l3, l4, ⟨a5, l6⟩, a7, a8, l9⟩ := ⟨_, rfl⟩
  rw [← hX]
  have HXX := iC.mk hX
  obtain ⟨r, hr⟩ : ∃ r : List Int × Int, r = (if 60000 < X.length then ([], 3) else (nums X, 0)) := ⟨_, rfl⟩
  rw [← hr]
  have HRR := iC.mk hr
  clear hr hs hX hsk hbw h3 h4 h6 h9
  go_enter Tryd.func18, Tryd.ntmps18
  go_wp2_with fail
  go_at_call 20
  (with_reducible refine hsnd.mono ?_)
  clear hsnd
  rintro e w0 ⟨rfl, hb1⟩
  have hB0 : Below w.heap.size w w0 := iH (iF (Below.refl _ _) _) hb1
  have hX0 : w0.heap[w.heap.size]? = some (.cells #[.int .u8 1, .int .u32 a1, .int .u32 a2, .slice A3 l3.length c3, .slice A4 l4.length c4, .int .u32 a5, .slice A6 l6.length c6, .int .i64 a7, .int .i64 a8, .slice A9 l9.length c9] 30 (0, 0)) := iJ hb1 (iM rfl)
  obtain ⟨z0, z1, z2, z3, z4, z5, z6, z7, z8, z9, y0, y1, y2, y3, y4, y5, y6, y7, y8, y9⟩ := ten hX0
  have HO := iC.mk (JU w0 w.heap.size 1 w.heap.size hB0.size (jE hX0))
  have HB := iC.mk (iF hB0 (.cells #[.int .u8 1] 5))
  have HX := iC.mk (jD (o := .cells #[.int .u8 1] 5) hX0)
  have HW1 := iC.mk (show w0.alloc (.cells #[.int .u8 1] 5) = w0.alloc (.cells #[.int .u8 1] 5) from rfl)
  clear hb1 hB0 hX0
  go_upto_region 4 with fail
  clear z0 z1 z2 z3 z4 z5 z6 z7 z8 z9 y0 y1 y2 y3 y4 y5 y6 y7 y8 y9
  obtain ⟨w1, hw1⟩ : ∃ x, x = w0.alloc (.cells #[.int .u8 1] 5) := ⟨_, rfl⟩
  rw [← hw1] at HO HB HX ⊢
  clear HW1
  have HW1 := iC.mk hw1
  clear hw1
  obtain ⟨L1, hL⟩ : ∃ l, l = [(1 : Int)] := ⟨_, rfl⟩
  have hn1 : L1.length ≤ 1 := by rw [hL]; simp
  rw [← hL] at HO
  have HL1 := iC.mk hL
  clear hL
  obtain ⟨z0, z1, z2, z3, z4, z5, z6, z7, z8, z9, y0, y1, y2, y3, y4, y5, y6, y7, y8, y9⟩ := ten HX.out
  have hcall := kV (fun k => w.heap.size < k) (.slice (some ⟨w0.heap.size, 0, none⟩) 1 1) L1 (a1) (IntKind.u64.wrap a1) 4 4 w w1 (by first | rfl | (rw [wrap_u64]; omega)) rfl (by omega) (by omega) HB.out HO.out
  go_wp2_with fail
  go_at_call 57
  (with_reducible refine hcall.mono ?_)
  clear hcall z0 z1 z2 z3 z4 z5 z6 z7 z8 z9 y0 y1 y2 y3 y4 y5 y6 y7 y8 y9
  rintro e w2 ⟨v2, rfl, ho, hb, hk⟩
  have HO' := iC.mk (Kd.R_mono (ok' := fun k => w.heap.size < k) ho (fun k h => h.elim id (fun h => Nat.lt_of_lt_of_le (jE HX.out) h)))
  have HX' := iC.mk (kP hk HX.out)
  have HB' := iC.mk hb
  clear ho hb hk HO HX HB
  obtain ⟨HO, HX, HB⟩ : _ ∧ _ ∧ _ := ⟨HO', HX', HB'⟩
  clear HO' HX' HB'
  obtain ⟨Ao, co, rfl⟩ := Kd.R_slice HO.out
  obtain ⟨L2, hL⟩ : ∃ l, l = L1 ++ nums (layB a1 4) := ⟨_, rfl⟩
  have hn2 : L2.length ≤ 5 := by rw [hL]; simp only [List.length_append, jC, iL]; omega
  rw [← hL] at HO ⊢
  have HL2 := iC.mk hL
  clear hL hn1
  obtain ⟨z0, z1, z2, z3, z4, z5, z6, z7, z8, z9, y0, y1, y2, y3, y4, y5, y6, y7, y8, y9⟩ := ten HX.out
  have hcall := zY (fun k => w.heap.size < k) _ L2 A3 c3 l3 w w2 (by rw [iV]; omega) HB.out HO.out (Kd.C_kept_came (Kd.heap_int .i64) H3.out HB.out (fun k h => Nat.le_of_lt h)) d3
  go_wp2_with fail
  go_at_call 58
  (with_reducible refine hcall.mono ?_)
  clear hcall z0 z1 z2 z3 z4 z5 z6 z7 z8 z9 y0 y1 y2 y3 y4 y5 y6 y7 y8 y9
  rintro e w3 ⟨v3, rfl, ho, hb, hk⟩
  have HO' := iC.mk (Kd.R_mono (ok' := fun k => w.heap.size < k) ho (fun k h => h.elim id (fun h => Nat.lt_of_lt_of_le (jE HX.out) h)))
  have HX' := iC.mk (kP hk HX.out)
  have HB' := iC.mk hb
  clear ho hb hk HO HX HB
  obtain ⟨HO, HX, HB⟩ : _ ∧ _ ∧ _ := ⟨HO', HX', HB'⟩
  clear HO' HX' HB'
  obtain ⟨Ao, co, rfl⟩ := Kd.R_slice HO.out
  obtain ⟨L3, hL⟩ : ∃ l, l = L2 ++ nums (lY l3) := ⟨_, rfl⟩
  have hn3 : L3.length ≤ 12 := by rw [hL]; simp only [List.length_append, jC, iL, iV]; omega
  rw [← hL] at HO ⊢
  have HL3 := iC.mk hL
  clear hL hn2
  obtain ⟨z0, z1, z2, z3, z4, z5, z6, z7, z8, z9, y0, y1, y2, y3, y4, y5, y6, y7, y8, y9⟩ := ten HX.out
  have hcall := yZ (fun k => w.heap.size < k) _ L3 A4 c4 l4 w w3 (by omega) HB.out HO.out (Kd.C_kept_came qZ H4.out HB.out (fun k h => Nat.le_of_lt h)) d4
  go_wp2_with fail
  go_at_call 59
  (with_reducible refine hcall.mono ?_)
  clear hcall z0 z1 z2 z3 z4 z5 z6 z7 z8 z9 y0 y1 y2 y3 y4 y5 y6 y7 y8 y9
  rintro e w4 ⟨v4, rfl, ho, hb, hk⟩
  have HO' := iC.mk (Kd.R_mono (ok' := fun k => w.heap.size < k) ho (fun k h => h.elim id (fun h => Nat.lt_of_lt_of_le (jE HX.out) h)))
  have HX' := iC.mk (kP hk HX.out)
  have HB' := iC.mk hb
  clear ho hb hk HO HX HB
  obtain ⟨HO, HX, HB⟩ : _ ∧ _ ∧ _ := ⟨HO', HX', HB'⟩
  clear HO' HX' HB'
  obtain ⟨Ao, co, rfl⟩ := Kd.R_slice HO.out
  obtain ⟨L4, hL⟩ : ∃ l, l = L3 ++ nums (kH l4) := ⟨_, rfl⟩
  have hn4 : L4.length ≤ 5016 := by rw [hL]; simp only [List.length_append, jC, iL]; omega
  rw [← hL] at HO ⊢
  have HL4 := iC.mk hL
  clear hL hn3
  obtain ⟨z0, z1, z2, z3, z4, z5, z6, z7, z8, z9, y0, y1, y2, y3, y4, y5, y6, y7, y8, y9⟩ := ten HX.out
  have HLX := iC.mk (show L4 = nums X from by rw [HL4.out, HL3.out, HL2.out, HL1.out, HXX.out, VK]; simp only [List.nil_append, nums_append]; rfl)
  by_cases hq : (60000 : Int) < (L4.length : Int)
  · have HP : iC (r = ([], 3)) := ⟨by rw [HRR.out, if_pos (by rw [HLX.out, jC] at hq; omega)]⟩
    go_wp2_with fail
    go_ret2
    rw [HP.out]
    exact ⟨_, rfl, Kd.R_nil _ _ _ _ _, HB.out⟩
  · have HP : iC (r = (nums X, 0)) := ⟨by rw [HRR.out, if_neg (by rw [HLX.out, jC] at hq; omega)]⟩
    go_wp2_with fail
    go_ret2
    rw [HP.out]
    exact ⟨_, rfl, by rw [← HLX.out]; exact Kd.R_mono HO.out (fun _ _ => trivial), HB.out⟩
set_option maxHeartbeats 8000000 in
set_option maxRecDepth 20000 in
theorem RD (hs : jJ ⟨2, a1, a2, l3, l4, ⟨a5, l6⟩, a7, a8, l9⟩ = true) : Calls Tryd.prog 18 #[.agg #[.int .u8 2, .int .u32 a1, .int .u32 a2, .slice A3 l3.length c3, .slice A4 l4.length c4, .int .u32 a5, .slice A6 l6.length c6, .int .i64 a7, .int .i64 a8, .slice A9 l9.length c9]] w (nU w (encR ⟨2, a1, a2, l3, l4, ⟨a5, l6⟩, a7, a8, l9⟩)) := by
  obtain ⟨kk, hsk⟩ := (oN 2 a1 a2 l3 l4 a5 l6 a7 a8 l9 (qQ h3 h4 h6 h9)).rounds
  rw [hs] at hsk
  have H3 := iC.mk h3; have H4 := iC.mk h4; have H6 := iC.mk h6; have H9 := iC.mk h9
  have hbw : Below w.heap.size w (w.alloc (.cells #[.int .u8 2, .int .u32 a1, .int .u32 a2, .slice A3 l3.length c3, .slice A4 l4.length c4, .int .u32 a5, .slice A6 l6.length c6, .int .i64 a7, .int .i64 a8, .slice A9 l9.length c9] 30)) := iF (Below.refl _ _) _
  have hsnd := stratumref07_Sound.calls kk 2 a1 a2 A3 c3 l3 A4 c4 l4 a5 A6 c6 l6 a7 a8 A9 c9 l9 true (w.alloc (.cells #[.int .u8 2, .int .u32 a1, .int .u32 a2, .slice A3 l3.length c3, .slice A4 l4.length c4, .int .u32 a5, .slice A6 l6.length c6, .int .i64 a7, .int .i64 a8, .slice A9 l9.length c9] 30)) (Kd.C_below h3 hbw) d3 (Kd.C_below h4 hbw) d4 (Kd.C_below h6 hbw) d6 (Kd.C_below h9 hbw) d9 hsk
  have HS := iC.mk hs
  have q3 : l3.length ≤ 6 := by
    have h := HS.out
    rw [QN, Bool.and_eq_true] at h
    exact oV _ h.1
  unfold encR
  rw [if_pos HS.out]
  obtain ⟨X, hX⟩ : ∃ X : List UInt8, X = recE ⟨2, a1, a2, l3, l4, ⟨a5, l6⟩, a7, a8, l9⟩ := ⟨_, rfl⟩
  rw [← hX]
  have HXX := iC.mk hX
  obtain ⟨r, hr⟩ : ∃ r : List Int × Int, r = (if 60000 < X.length then ([], 3) else (nums X, 0)) := ⟨_, rfl⟩
  rw [← hr]
  have HRR := iC.mk hr
  clear hr hs hX hsk hbw h3 h4 h6 h9
  go_enter Tryd.func18, Tryd.ntmps18
  go_wp2_with fail
  go_at_call 20
  (with_reducible refine hsnd.mono ?_)
  clear hsnd
  rintro e w0 ⟨rfl, hb1⟩
  have hB0 : Below w.heap.size w w0 := iH (iF (Below.refl _ _) _) hb1
  have hX0 : w0.heap[w.heap.size]? = some (.cells #[.int .u8 2, .int .u32 a1, .int .u32 a2, .slice A3 l3.length c3, .slice A4 l4.length c4, .int .u32 a5, .slice A6 l6.length c6, .int .i64 a7, .int .i64 a8, .slice A9 l9.length c9] 30 (0, 0)) := iJ hb1 (iM rfl)
  obtain ⟨z0, z1, z2, z3, z4, z5, z6, z7, z8, z9, y0, y1, y2, y3, y4, y5, y6, y7, y8, y9⟩ := ten hX0
  have HO := iC.mk (JU w0 w.heap.size 2 w.heap.size hB0.size (jE hX0))
  have HB := iC.mk (iF hB0 (.cells #[.int .u8 2] 5))
  have HX := iC.mk (jD (o := .cells #[.int .u8 2] 5) hX0)
  have HW1 := iC.mk (show w0.alloc (.cells #[.int .u8 2] 5) = w0.alloc (.cells #[.int .u8 2] 5) from rfl)
  clear hb1 hB0 hX0
  go_upto_region 4 with fail
  clear z0 z1 z2 z3 z4 z5 z6 z7 z8 z9 y0 y1 y2 y3 y4 y5 y6 y7 y8 y9
  obtain ⟨w1, hw1⟩ : ∃ x, x = w0.alloc (.cells #[.int .u8 2] 5) := ⟨_, rfl⟩
  rw [← hw1] at HO HB HX ⊢
  clear HW1
  have HW1 := iC.mk hw1
  clear hw1
  obtain ⟨L1, hL⟩ : ∃ l, l = [(2 : Int)] := ⟨_, rfl⟩
  have hn1 : L1.length ≤ 1 := by rw [hL]; simp
  rw [← hL] at HO
  have HL1 := iC.mk hL
  clear hL
  obtain ⟨z0, z1, z2, z3, z4, z5, z6, z7, z8, z9, y0, y1, y2, y3, y4, y5, y6, y7, y8, y9⟩ := ten HX.out
  have hcall := kV (fun k => w.heap.size < k) (.slice (some ⟨w0.heap.size, 0, none⟩) 1 1) L1 (a1) (IntKind.u64.wrap a1) 4 4 w w1 (by first | rfl | (rw [wrap_u64]; omega)) rfl (by omega) (by omega) HB.out HO.out
  go_wp2_with fail
  go_at_call 57
  (with_reducible refine hcall.mono ?_)
  clear hcall z0 z1 z2 z3 z4 z5 z6 z7 z8 z9 y0 y1 y2 y3 y4 y5 y6 y7 y8 y9
  rintro e w2 ⟨v2, rfl, ho, hb, hk⟩
  have HO' := iC.mk (Kd.R_mono (ok' := fun k => w.heap.size < k) ho (fun k h => h.elim id (fun h => Nat.lt_of_lt_of_le (jE HX.out) h)))
  have HX' := iC.mk (kP hk HX.out)
  have HB' := iC.mk hb
  clear ho hb hk HO HX HB
  obtain ⟨HO, HX, HB⟩ : _ ∧ _ ∧ _ := ⟨HO', HX', HB'⟩
  clear HO' HX' HB'
  obtain ⟨Ao, co, rfl⟩ := Kd.R_slice HO.out
  obtain ⟨L2, hL⟩ : ∃ l, l = L1 ++ nums (layB a1 4) := ⟨_, rfl⟩
  have hn2 : L2.length ≤ 5 := by rw [hL]; simp only [List.length_append, jC, iL]; omega
  rw [← hL] at HO ⊢
  have HL2 := iC.mk hL
  clear hL hn1
  obtain ⟨z0, z1, z2, z3, z4, z5, z6, z7, z8, z9, y0, y1, y2, y3, y4, y5, y6, y7, y8, y9⟩ := ten HX.out
  have hcall := kV (fun k => w.heap.size < k) _ L2 (a2) (IntKind.u64.wrap a2) 4 4 w w2 (by first | rfl | (rw [wrap_u64]; omega)) rfl (by omega) (by omega) HB.out HO.out
  go_wp2_with fail
  go_at_call 57
  (with_reducible refine hcall.mono ?_)
  clear hcall z0 z1 z2 z3 z4 z5 z6 z7 z8 z9 y0 y1 y2 y3 y4 y5 y6 y7 y8 y9
  rintro e w3 ⟨v3, rfl, ho, hb, hk⟩
  have HO' := iC.mk (Kd.R_mono (ok' := fun k => w.heap.size < k) ho (fun k h => h.elim id (fun h => Nat.lt_of_lt_of_le (jE HX.out) h)))
  have HX' := iC.mk (kP hk HX.out)
  have HB' := iC.mk hb
  clear ho hb hk HO HX HB
  obtain ⟨HO, HX, HB⟩ : _ ∧ _ ∧ _ := ⟨HO', HX', HB'⟩
  clear HO' HX' HB'
  obtain ⟨Ao, co, rfl⟩ := Kd.R_slice HO.out
  obtain ⟨L3, hL⟩ : ∃ l, l = L2 ++ nums (layB a2 4) := ⟨_, rfl⟩
  have hn3 : L3.length ≤ 9 := by rw [hL]; simp only [List.length_append, jC, iL]; omega
  rw [← hL] at HO ⊢
  have HL3 := iC.mk hL
  clear hL hn2
  obtain ⟨z0, z1, z2, z3, z4, z5, z6, z7, z8, z9, y0, y1, y2, y3, y4, y5, y6, y7, y8, y9⟩ := ten HX.out
  have hcall := zY (fun k => w.heap.size < k) _ L3 A3 c3 l3 w w3 (by rw [iV]; omega) HB.out HO.out (Kd.C_kept_came (Kd.heap_int .i64) H3.out HB.out (fun k h => Nat.le_of_lt h)) d3
  go_wp2_with fail
  go_at_call 58
  (with_reducible refine hcall.mono ?_)
  clear hcall z0 z1 z2 z3 z4 z5 z6 z7 z8 z9 y0 y1 y2 y3 y4 y5 y6 y7 y8 y9
  rintro e w4 ⟨v4, rfl, ho, hb, hk⟩
  have HO' := iC.mk (Kd.R_mono (ok' := fun k => w.heap.size < k) ho (fun k h => h.elim id (fun h => Nat.lt_of_lt_of_le (jE HX.out) h)))
  have HX' := iC.mk (kP hk HX.out)
  have HB' := iC.mk hb
  clear ho hb hk HO HX HB
  obtain ⟨HO, HX, HB⟩ : _ ∧ _ ∧ _ := ⟨HO', HX', HB'⟩
  clear HO' HX' HB'
  obtain ⟨Ao, co, rfl⟩ := Kd.R_slice HO.out
  obtain ⟨L4, hL⟩ : ∃ l, l = L3 ++ nums (lY l3) := ⟨_, rfl⟩
  have hn4 : L4.length ≤ 16 := by rw [hL]; simp only [List.length_append, jC, iL, iV]; omega
  rw [← hL] at HO ⊢
  have HL4 := iC.mk hL
  clear hL hn3
  obtain ⟨z0, z1, z2, z3, z4, z5, z6, z7, z8, z9, y0, y1, y2, y3, y4, y5, y6, y7, y8, y9⟩ := ten HX.out
  have HLX := iC.mk (show L4 = nums X from by rw [HL4.out, HL3.out, HL2.out, HL1.out, HXX.out, VA]; simp only [List.nil_append, nums_append]; rfl)
  by_cases hq : (60000 : Int) < (L4.length : Int)
  · have HP : iC (r = ([], 3)) := ⟨by rw [HRR.out, if_pos (by rw [HLX.out, jC] at hq; omega)]⟩
    go_wp2_with fail
    go_ret2
    rw [HP.out]
    exact ⟨_, rfl, Kd.R_nil _ _ _ _ _, HB.out⟩
  · have HP : iC (r = (nums X, 0)) := ⟨by rw [HRR.out, if_neg (by rw [HLX.out, jC] at hq; omega)]⟩
    go_wp2_with fail
    go_ret2
    rw [HP.out]
    exact ⟨_, rfl, by rw [← HLX.out]; exact Kd.R_mono HO.out (fun _ _ => trivial), HB.out⟩
set_option maxHeartbeats 8000000 in
set_option maxRecDepth 20000 in
theorem QQ (hs : jJ ⟨3, a1, a2, l3, l4, ⟨a5, l6⟩, a7, a8, l9⟩ = true) : Calls Tryd.prog 18 #[.agg #[.int .u8 3, .int .u32 a1, .int .u32 a2, .slice A3 l3.length c3, .slice A4 l4.length c4, .int .u32 a5, .slice A6 l6.length c6, .int .i64 a7, .int .i64 a8, .slice A9 l9.length c9]] w (nU w (encR ⟨3, a1, a2, l3, l4, ⟨a5, l6⟩, a7, a8, l9⟩)) := by
  obtain ⟨kk, hsk⟩ := (oN 3 a1 a2 l3 l4 a5 l6 a7 a8 l9 (qQ h3 h4 h6 h9)).rounds
  rw [hs] at hsk
  have H3 := iC.mk h3; have H4 := iC.mk h4; have H6 := iC.mk h6; have H9 := iC.mk h9
  have hbw : Below w.heap.size w (w.alloc (.cells #[.int .u8 3, .int .u32 a1, .int .u32 a2, .slice A3 l3.length c3, .slice A4 l4.length c4, .int .u32 a5, .slice A6 l6.length c6, .int .i64 a7, .int .i64 a8, .slice A9 l9.length c9] 30)) := iF (Below.refl _ _) _
  have hsnd := stratumref07_Sound.calls kk 3 a1 a2 A3 c3 l3 A4 c4 l4 a5 A6 c6 l6 a7 a8 A9 c9 l9 true (w.alloc (.cells #[.int .u8 3, .int .u32 a1, .int .u32 a2, .slice A3 l3.length c3, .slice A4 l4.length c4, .int .u32 a5, .slice A6 l6.length c6, .int .i64 a7, .int .i64 a8, .slice A9 l9.length c9] 30)) (Kd.C_below h3 hbw) d3 (Kd.C_below h4 hbw) d4 (Kd.C_below h6 hbw) d6 (Kd.C_below h9 hbw) d9 hsk
  have HS := iC.mk hs
  unfold encR
  rw [if_pos HS.out]
  obtain ⟨X, hX⟩ : ∃ X : List UInt8, X = recE ⟨3, a1, a2, l3, l4, ⟨a5, l6⟩, a7, a8, l9⟩ := ⟨_, rfl⟩
  rw [← hX]
  have HXX := iC.mk hX
  obtain ⟨r, hr⟩ : ∃ r : List Int × Int, r = (if 60000 < X.length then ([], 3) else (nums X, 0)) := ⟨_, rfl⟩
  rw [← hr]
  have HRR := iC.mk hr
  clear hr hs hX hsk hbw h3 h4 h6 h9
  go_enter Tryd.func18, Tryd.ntmps18
  go_wp2_with fail
  go_at_call 20
  (with_reducible refine hsnd.mono ?_)
  clear hsnd
  rintro e w0 ⟨rfl, hb1⟩
  have hB0 : Below w.heap.size w w0 := iH (iF (Below.refl _ _) _) hb1
  have hX0 : w0.heap[w.heap.size]? = some (.cells #[.int .u8 3, .int .u32 a1, .int .u32 a2, .slice A3 l3.length c3, .slice A4 l4.length c4, .int .u32 a5, .slice A6 l6.length c6, .int .i64 a7, .int .i64 a8, .slice A9 l9.length c9] 30 (0, 0)) := iJ hb1 (iM rfl)
  obtain ⟨z0, z1, z2, z3, z4, z5, z6, z7, z8, z9, y0, y1, y2, y3, y4, y5, y6, y7, y8, y9⟩ := ten hX0
  have HO := iC.mk (JU w0 w.heap.size 3 w.heap.size hB0.size (jE hX0))
  have HB := iC.mk (iF hB0 (.cells #[.int .u8 3] 5))
  have HX := iC.mk (jD (o := .cells #[.int .u8 3] 5) hX0)
  have HW1 := iC.mk (show w0.alloc (.cells #[.int .u8 3] 5) = w0.alloc (.cells #[.int .u8 3] 5) from rfl)
  clear hb1 hB0 hX0
  go_upto_region 4 with fail
  clear z0 z1 z2 z3 z4 z5 z6 z7 z8 z9 y0 y1 y2 y3 y4 y5 y6 y7 y8 y9
  obtain ⟨w1, hw1⟩ : ∃ x, x = w0.alloc (.cells #[.int .u8 3] 5) := ⟨_, rfl⟩
  rw [← hw1] at HO HB HX ⊢
  clear HW1
  have HW1 := iC.mk hw1
  clear hw1
  obtain ⟨L1, hL⟩ : ∃ l, l = [(3 : Int)] := ⟨_, rfl⟩
  have hn1 : L1.length ≤ 1 := by rw [hL]; simp
  rw [← hL] at HO
  have HL1 := iC.mk hL
  clear hL
  obtain ⟨z0, z1, z2, z3, z4, z5, z6, z7, z8, z9, y0, y1, y2, y3, y4, y5, y6, y7, y8, y9⟩ := ten HX.out
  have hcall := kV (fun k => w.heap.size < k) (.slice (some ⟨w0.heap.size, 0, none⟩) 1 1) L1 (a1) (IntKind.u64.wrap a1) 4 4 w w1 (by first | rfl | (rw [wrap_u64]; omega)) rfl (by omega) (by omega) HB.out HO.out
  go_wp2_with fail
  go_at_call 57
  (with_reducible refine hcall.mono ?_)
  clear hcall z0 z1 z2 z3 z4 z5 z6 z7 z8 z9 y0 y1 y2 y3 y4 y5 y6 y7 y8 y9
  rintro e w2 ⟨v2, rfl, ho, hb, hk⟩
  have HO' := iC.mk (Kd.R_mono (ok' := fun k => w.heap.size < k) ho (fun k h => h.elim id (fun h => Nat.lt_of_lt_of_le (jE HX.out) h)))
  have HX' := iC.mk (kP hk HX.out)
  have HB' := iC.mk hb
  clear ho hb hk HO HX HB
  obtain ⟨HO, HX, HB⟩ : _ ∧ _ ∧ _ := ⟨HO', HX', HB'⟩
  clear HO' HX' HB'
  obtain ⟨Ao, co, rfl⟩ := Kd.R_slice HO.out
  obtain ⟨L2, hL⟩ : ∃ l, l = L1 ++ nums (layB a1 4) := ⟨_, rfl⟩
  have hn2 : L2.length ≤ 5 := by rw [hL]; simp only [List.length_append, jC, iL]; omega
  rw [← hL] at HO ⊢
  have HL2 := iC.mk hL
  clear hL hn1
  obtain ⟨z0, z1, z2, z3, z4, z5, z6, z7, z8, z9, y0, y1, y2, y3, y4, y5, y6, y7, y8, y9⟩ := ten HX.out
  have HLX := iC.mk (show L2 = nums X from by rw [HL2.out, HL1.out, HXX.out, VE]; simp only [List.nil_append, nums_append]; rfl)
  have HP : iC (r = (nums X, 0)) := ⟨by rw [HRR.out, if_neg (by have h := congrArg List.length HLX.out; rw [jC] at h; omega)]⟩
  go_wp2_with fail
  go_ret2
  rw [HP.out]
  exact ⟨_, rfl, by rw [← HLX.out]; exact Kd.R_mono HO.out (fun _ _ => trivial), HB.out⟩
set_option maxHeartbeats 8000000 in
set_option maxRecDepth 20000 in
theorem QU (hs : jJ ⟨4, a1, a2, l3, l4, ⟨a5, l6⟩, a7, a8, l9⟩ = true) : Calls Tryd.prog 18 #[.agg #[.int .u8 4, .int .u32 a1, .int .u32 a2, .slice A3 l3.length c3, .slice A4 l4.length c4, .int .u32 a5, .slice A6 l6.length c6, .int .i64 a7, .int .i64 a8, .slice A9 l9.length c9]] w (nU w (encR ⟨4, a1, a2, l3, l4, ⟨a5, l6⟩, a7, a8, l9⟩)) := by
  obtain ⟨kk, hsk⟩ := (oN 4 a1 a2 l3 l4 a5 l6 a7 a8 l9 (qQ h3 h4 h6 h9)).rounds
  rw [hs] at hsk
  have H3 := iC.mk h3; have H4 := iC.mk h4; have H6 := iC.mk h6; have H9 := iC.mk h9
  have hbw : Below w.heap.size w (w.alloc (.cells #[.int .u8 4, .int .u32 a1, .int .u32 a2, .slice A3 l3.length c3, .slice A4 l4.length c4, .int .u32 a5, .slice A6 l6.length c6, .int .i64 a7, .int .i64 a8, .slice A9 l9.length c9] 30)) := iF (Below.refl _ _) _
  have hsnd := stratumref07_Sound.calls kk 4 a1 a2 A3 c3 l3 A4 c4 l4 a5 A6 c6 l6 a7 a8 A9 c9 l9 true (w.alloc (.cells #[.int .u8 4, .int .u32 a1, .int .u32 a2, .slice A3 l3.length c3, .slice A4 l4.length c4, .int .u32 a5, .slice A6 l6.length c6, .int .i64 a7, .int .i64 a8, .slice A9 l9.length c9] 30)) (Kd.C_below h3 hbw) d3 (Kd.C_below h4 hbw) d4 (Kd.C_below h6 hbw) d6 (Kd.C_below h9 hbw) d9 hsk
  have HS := iC.mk hs
  unfold encR
  rw [if_pos HS.out]
  obtain ⟨X, hX⟩ : ∃ X : List UInt8, X = recE ⟨4, a1, a2, l3, l4, ⟨a5, l6⟩, a7, a8, l9⟩ := ⟨_, rfl⟩
  rw [← hX]
  have HXX := iC.mk hX
  obtain ⟨r, hr⟩ : ∃ r : List Int × Int, r = (if 60000 < X.length then ([], 3) else (nums X, 0)) := ⟨_, rfl⟩
  rw [← hr]
  have HRR := iC.mk hr
  clear hr hs hX hsk hbw h3 h4 h6 h9
  go_enter Tryd.func18, Tryd.ntmps18
  go_wp2_with fail
  go_at_call 20
  (with_reducible refine hsnd.mono ?_)
  clear hsnd
  rintro e w0 ⟨rfl, hb1⟩
  have hB0 : Below w.heap.size w w0 := iH (iF (Below.refl _ _) _) hb1
  have hX0 : w0.heap[w.heap.size]? = some (.cells #[.int .u8 4, .int .u32 a1, .int .u32 a2, .slice A3 l3.length c3, .slice A4 l4.length c4, .int .u32 a5, .slice A6 l6.length c6, .int .i64 a7, .int .i64 a8, .slice A9 l9.length c9] 30 (0, 0)) := iJ hb1 (iM rfl)
  obtain ⟨z0, z1, z2, z3, z4, z5, z6, z7, z8, z9, y0, y1, y2, y3, y4, y5, y6, y7, y8, y9⟩ := ten hX0
  have HO := iC.mk (JU w0 w.heap.size 4 w.heap.size hB0.size (jE hX0))
  have HB := iC.mk (iF hB0 (.cells #[.int .u8 4] 5))
  have HX := iC.mk (jD (o := .cells #[.int .u8 4] 5) hX0)
  have HW1 := iC.mk (show w0.alloc (.cells #[.int .u8 4] 5) = w0.alloc (.cells #[.int .u8 4] 5) from rfl)
  clear hb1 hB0 hX0
  go_upto_region 4 with fail
  clear z0 z1 z2 z3 z4 z5 z6 z7 z8 z9 y0 y1 y2 y3 y4 y5 y6 y7 y8 y9
  obtain ⟨w1, hw1⟩ : ∃ x, x = w0.alloc (.cells #[.int .u8 4] 5) := ⟨_, rfl⟩
  rw [← hw1] at HO HB HX ⊢
  clear HW1
  have HW1 := iC.mk hw1
  clear hw1
  obtain ⟨L1, hL⟩ : ∃ l, l = [(4 : Int)] := ⟨_, rfl⟩
  have hn1 : L1.length ≤ 1 := by rw [hL]; simp
  rw [← hL] at HO
  have HL1 := iC.mk hL
  clear hL
  obtain ⟨z0, z1, z2, z3, z4, z5, z6, z7, z8, z9, y0, y1, y2, y3, y4, y5, y6, y7, y8, y9⟩ := ten HX.out
  have hcall := kV (fun k => w.heap.size < k) (.slice (some ⟨w0.heap.size, 0, none⟩) 1 1) L1 (a1) (IntKind.u64.wrap a1) 4 4 w w1 (by first | rfl | (rw [wrap_u64]; omega)) rfl (by omega) (by omega) HB.out HO.out
  go_wp2_with fail
  go_at_call 57
  (with_reducible refine hcall.mono ?_)
  clear hcall z0 z1 z2 z3 z4 z5 z6 z7 z8 z9 y0 y1 y2 y3 y4 y5 y6 y7 y8 y9
  rintro e w2 ⟨v2, rfl, ho, hb, hk⟩
  have HO' := iC.mk (Kd.R_mono (ok' := fun k => w.heap.size < k) ho (fun k h => h.elim id (fun h => Nat.lt_of_lt_of_le (jE HX.out) h)))
  have HX' := iC.mk (kP hk HX.out)
  have HB' := iC.mk hb
  clear ho hb hk HO HX HB
  obtain ⟨HO, HX, HB⟩ : _ ∧ _ ∧ _ := ⟨HO', HX', HB'⟩
  clear HO' HX' HB'
  obtain ⟨Ao, co, rfl⟩ := Kd.R_slice HO.out
  obtain ⟨L2, hL⟩ : ∃ l, l = L1 ++ nums (layB a1 4) := ⟨_, rfl⟩
  have hn2 : L2.length ≤ 5 := by rw [hL]; simp only [List.length_append, jC, iL]; omega
  rw [← hL] at HO ⊢
  have HL2 := iC.mk hL
  clear hL hn1
  obtain ⟨z0, z1, z2, z3, z4, z5, z6, z7, z8, z9, y0, y1, y2, y3, y4, y5, y6, y7, y8, y9⟩ := ten HX.out
  have HLX := iC.mk (show L2 = nums X from by rw [HL2.out, HL1.out, HXX.out, V5]; simp only [List.nil_append, nums_append]; rfl)
  have HP : iC (r = (nums X, 0)) := ⟨by rw [HRR.out, if_neg (by have h := congrArg List.length HLX.out; rw [jC] at h; omega)]⟩
  go_wp2_with fail
  go_ret2
  rw [HP.out]
  exact ⟨_, rfl, by rw [← HLX.out]; exact Kd.R_mono HO.out (fun _ _ => trivial), HB.out⟩
set_option maxHeartbeats 8000000 in
set_option maxRecDepth 20000 in
theorem Q8 (hs : jJ ⟨5, a1, a2, l3, l4, ⟨a5, l6⟩, a7, a8, l9⟩ = true) : Calls Tryd.prog 18 #[.agg #[.int .u8 5, .int .u32 a1, .int .u32 a2, .slice A3 l3.length c3, .slice A4 l4.length c4, .int .u32 a5, .slice A6 l6.length c6, .int .i64 a7, .int .i64 a8, .slice A9 l9.length c9]] w (nU w (encR ⟨5, a1, a2, l3, l4, ⟨a5, l6⟩, a7, a8, l9⟩)) := by
  obtain ⟨kk, hsk⟩ := (oN 5 a1 a2 l3 l4 a5 l6 a7 a8 l9 (qQ h3 h4 h6 h9)).rounds
  rw [hs] at hsk
  have H3 := iC.mk h3; have H4 := iC.mk h4; have H6 := iC.mk h6; have H9 := iC.mk h9
  have hbw : Below w.heap.size w (w.alloc (.cells #[.int .u8 5, .int .u32 a1, .int .u32 a2, .slice A3 l3.length c3, .slice A4 l4.length c4, .int .u32 a5, .slice A6 l6.length c6, .int .i64 a7, .int .i64 a8, .slice A9 l9.length c9] 30)) := iF (Below.refl _ _) _
  have hsnd := stratumref07_Sound.calls kk 5 a1 a2 A3 c3 l3 A4 c4 l4 a5 A6 c6 l6 a7 a8 A9 c9 l9 true (w.alloc (.cells #[.int .u8 5, .int .u32 a1, .int .u32 a2, .slice A3 l3.length c3, .slice A4 l4.length c4, .int .u32 a5, .slice A6 l6.length c6, .int .i64 a7, .int .i64 a8, .slice A9 l9.length c9] 30)) (Kd.C_below h3 hbw) d3 (Kd.C_below h4 hbw) d4 (Kd.C_below h6 hbw) d6 (Kd.C_below h9 hbw) d9 hsk
  have HS := iC.mk hs
  unfold encR
  rw [if_pos HS.out]
  obtain ⟨X, hX⟩ : ∃ X : List UInt8, X = recE ⟨5, a1, a2, l3, l4, ⟨a5, l6⟩, a7, a8, l9⟩ := ⟨_, rfl⟩
  rw [← hX]
  have HXX := iC.mk hX
  obtain ⟨r, hr⟩ : ∃ r : List Int × Int, r = (if 60000 < X.length then ([], 3) else (nums X, 0)) := ⟨_, rfl⟩
  rw [← hr]
  have HRR := iC.mk hr
  clear hr hs hX hsk hbw h3 h4 h6 h9
  go_enter Tryd.func18, Tryd.ntmps18
  go_wp2_with fail
  go_at_call 20
  (with_reducible refine hsnd.mono ?_)
  clear hsnd
  rintro e w0 ⟨rfl, hb1⟩
  have hB0 : Below w.heap.size w w0 := iH (iF (Below.refl _ _) _) hb1
  have hX0 : w0.heap[w.heap.size]? = some (.cells #[.int .u8 5, .int .u32 a1, .int .u32 a2, .slice A3 l3.length c3, .slice A4 l4.length c4, .int .u32 a5, .slice A6 l6.length c6, .int .i64 a7, .int .i64 a8, .slice A9 l9.length c9] 30 (0, 0)) := iJ hb1 (iM rfl)
  obtain ⟨z0, z1, z2, z3, z4, z5, z6, z7, z8, z9, y0, y1, y2, y3, y4, y5, y6, y7, y8, y9⟩ := ten hX0
  have HO := iC.mk (JU w0 w.heap.size 5 w.heap.size hB0.size (jE hX0))
  have HB := iC.mk (iF hB0 (.cells #[.int .u8 5] 5))
  have HX := iC.mk (jD (o := .cells #[.int .u8 5] 5) hX0)
  have HW1 := iC.mk (show w0.alloc (.cells #[.int .u8 5] 5) = w0.alloc (.cells #[.int .u8 5] 5) from rfl)
  clear hb1 hB0 hX0
  go_upto_region 4 with fail
  clear z0 z1 z2 z3 z4 z5 z6 z7 z8 z9 y0 y1 y2 y3 y4 y5 y6 y7 y8 y9
  obtain ⟨w1, hw1⟩ : ∃ x, x = w0.alloc (.cells #[.int .u8 5] 5) := ⟨_, rfl⟩
  rw [← hw1] at HO HB HX ⊢
  clear HW1
  have HW1 := iC.mk hw1
  clear hw1
  obtain ⟨L1, hL⟩ : ∃ l, l = [(5 : Int)] := ⟨_, rfl⟩
  have hn1 : L1.length ≤ 1 := by rw [hL]; simp
  rw [← hL] at HO
  have HL1 := iC.mk hL
  clear hL
  obtain ⟨z0, z1, z2, z3, z4, z5, z6, z7, z8, z9, y0, y1, y2, y3, y4, y5, y6, y7, y8, y9⟩ := ten HX.out
  have hcall := kV (fun k => w.heap.size < k) (.slice (some ⟨w0.heap.size, 0, none⟩) 1 1) L1 (a1) (IntKind.u64.wrap a1) 4 4 w w1 (by first | rfl | (rw [wrap_u64]; omega)) rfl (by omega) (by omega) HB.out HO.out
  go_wp2_with fail
  go_at_call 57
  (with_reducible refine hcall.mono ?_)
  clear hcall z0 z1 z2 z3 z4 z5 z6 z7 z8 z9 y0 y1 y2 y3 y4 y5 y6 y7 y8 y9
  rintro e w2 ⟨v2, rfl, ho, hb, hk⟩
  have HO' := iC.mk (Kd.R_mono (ok' := fun k => w.heap.size < k) ho (fun k h => h.elim id (fun h => Nat.lt_of_lt_of_le (jE HX.out) h)))
  have HX' := iC.mk (kP hk HX.out)
  have HB' := iC.mk hb
  clear ho hb hk HO HX HB
  obtain ⟨HO, HX, HB⟩ : _ ∧ _ ∧ _ := ⟨HO', HX', HB'⟩
  clear HO' HX' HB'
  obtain ⟨Ao, co, rfl⟩ := Kd.R_slice HO.out
  obtain ⟨L2, hL⟩ : ∃ l, l = L1 ++ nums (layB a1 4) := ⟨_, rfl⟩
  have hn2 : L2.length ≤ 5 := by rw [hL]; simp only [List.length_append, jC, iL]; omega
  rw [← hL] at HO ⊢
  have HL2 := iC.mk hL
  clear hL hn1
  obtain ⟨z0, z1, z2, z3, z4, z5, z6, z7, z8, z9, y0, y1, y2, y3, y4, y5, y6, y7, y8, y9⟩ := ten HX.out
  have HLX := iC.mk (show L2 = nums X from by rw [HL2.out, HL1.out, HXX.out, VF]; simp only [List.nil_append, nums_append]; rfl)
  have HP : iC (r = (nums X, 0)) := ⟨by rw [HRR.out, if_neg (by have h := congrArg List.length HLX.out; rw [jC] at h; omega)]⟩
  go_wp2_with fail
  go_ret2
  rw [HP.out]
  exact ⟨_, rfl, by rw [← HLX.out]; exact Kd.R_mono HO.out (fun _ _ => trivial), HB.out⟩
set_option maxHeartbeats 8000000 in
set_option maxRecDepth 20000 in
theorem RF (hs : jJ ⟨7, a1, a2, l3, l4, ⟨a5, l6⟩, a7, a8, l9⟩ = true) : Calls Tryd.prog 18 #[.agg #[.int .u8 7, .int .u32 a1, .int .u32 a2, .slice A3 l3.length c3, .slice A4 l4.length c4, .int .u32 a5, .slice A6 l6.length c6, .int .i64 a7, .int .i64 a8, .slice A9 l9.length c9]] w (nU w (encR ⟨7, a1, a2, l3, l4, ⟨a5, l6⟩, a7, a8, l9⟩)) := by
  obtain ⟨kk, hsk⟩ := (oN 7 a1 a2 l3 l4 a5 l6 a7 a8 l9 (qQ h3 h4 h6 h9)).rounds
  rw [hs] at hsk
  have H3 := iC.mk h3; have H4 := iC.mk h4; have H6 := iC.mk h6; have H9 := iC.mk h9
  have hbw : Below w.heap.size w (w.alloc (.cells #[.int .u8 7, .int .u32 a1, .int .u32 a2, .slice A3 l3.length c3, .slice A4 l4.length c4, .int .u32 a5, .slice A6 l6.length c6, .int .i64 a7, .int .i64 a8, .slice A9 l9.length c9] 30)) := iF (Below.refl _ _) _
  have hsnd := stratumref07_Sound.calls kk 7 a1 a2 A3 c3 l3 A4 c4 l4 a5 A6 c6 l6 a7 a8 A9 c9 l9 true (w.alloc (.cells #[.int .u8 7, .int .u32 a1, .int .u32 a2, .slice A3 l3.length c3, .slice A4 l4.length c4, .int .u32 a5, .slice A6 l6.length c6, .int .i64 a7, .int .i64 a8, .slice A9 l9.length c9] 30)) (Kd.C_below h3 hbw) d3 (Kd.C_below h4 hbw) d4 (Kd.C_below h6 hbw) d6 (Kd.C_below h9 hbw) d9 hsk
  have HS := iC.mk hs
  have q9 : (jS l9).length ≤ 25040004 := by
    have h := HS.out
    rw [Q4] at h
    simp only [Bool.and_eq_true, decide_eq_true_eq] at h
    exact uC _ h.1.1.1.1.1.1 (by have := h.1.1.1.1.1.2; omega)
  unfold encR
  rw [if_pos HS.out]
  obtain ⟨X, hX⟩ : ∃ X : List UInt8, X = recE ⟨7, a1, a2, l3, l4, ⟨a5, l6⟩, a7, a8, l9⟩ := ⟨_, rfl⟩
  rw [← hX]
  have HXX := iC.mk hX
  obtain ⟨r, hr⟩ : ∃ r : List Int × Int, r = (if 60000 < X.length then ([], 3) else (nums X, 0)) := ⟨_, rfl⟩
  rw [← hr]
  have HRR := iC.mk hr
  clear hr hs hX hsk hbw h3 h4 h6 h9
  go_enter Tryd.func18, Tryd.ntmps18
  go_wp2_with fail
  go_at_call 20
  (with_reducible refine hsnd.mono ?_)
  clear hsnd
  rintro e w0 ⟨rfl, hb1⟩
  have hB0 : Below w.heap.size w w0 := iH (iF (Below.refl _ _) _) hb1
  have hX0 : w0.heap[w.heap.size]? = some (.cells #[.int .u8 7, .int .u32 a1, .int .u32 a2, .slice A3 l3.length c3, .slice A4 l4.length c4, .int .u32 a5, .slice A6 l6.length c6, .int .i64 a7, .int .i64 a8, .slice A9 l9.length c9] 30 (0, 0)) := iJ hb1 (iM rfl)
  obtain ⟨z0, z1, z2, z3, z4, z5, z6, z7, z8, z9, y0, y1, y2, y3, y4, y5, y6, y7, y8, y9⟩ := ten hX0
  have HO := iC.mk (JU w0 w.heap.size 7 w.heap.size hB0.size (jE hX0))
  have HB := iC.mk (iF hB0 (.cells #[.int .u8 7] 5))
  have HX := iC.mk (jD (o := .cells #[.int .u8 7] 5) hX0)
  have HW1 := iC.mk (show w0.alloc (.cells #[.int .u8 7] 5) = w0.alloc (.cells #[.int .u8 7] 5) from rfl)
  clear hb1 hB0 hX0
  go_upto_region 4 with fail
  clear z0 z1 z2 z3 z4 z5 z6 z7 z8 z9 y0 y1 y2 y3 y4 y5 y6 y7 y8 y9
  obtain ⟨w1, hw1⟩ : ∃ x, x = w0.alloc (.cells #[.int .u8 7] 5) := ⟨_, rfl⟩
  rw [← hw1] at HO HB HX ⊢
  clear HW1
  have HW1 := iC.mk hw1
  clear hw1
  obtain ⟨L1, hL⟩ : ∃ l, l = [(7 : Int)] := ⟨_, rfl⟩
  have hn1 : L1.length ≤ 1 := by rw [hL]; simp
  rw [← hL] at HO
  have HL1 := iC.mk hL
  clear hL
  obtain ⟨z0, z1, z2, z3, z4, z5, z6, z7, z8, z9, y0, y1, y2, y3, y4, y5, y6, y7, y8, y9⟩ := ten HX.out
  have hcall := kV (fun k => w.heap.size < k) (.slice (some ⟨w0.heap.size, 0, none⟩) 1 1) L1 (a1) (IntKind.u64.wrap a1) 4 4 w w1 (by first | rfl | (rw [wrap_u64]; omega)) rfl (by omega) (by omega) HB.out HO.out
  go_wp2_with fail
  go_at_call 57
  (with_reducible refine hcall.mono ?_)
  clear hcall z0 z1 z2 z3 z4 z5 z6 z7 z8 z9 y0 y1 y2 y3 y4 y5 y6 y7 y8 y9
  rintro e w2 ⟨v2, rfl, ho, hb, hk⟩
  have HO' := iC.mk (Kd.R_mono (ok' := fun k => w.heap.size < k) ho (fun k h => h.elim id (fun h => Nat.lt_of_lt_of_le (jE HX.out) h)))
  have HX' := iC.mk (kP hk HX.out)
  have HB' := iC.mk hb
  clear ho hb hk HO HX HB
  obtain ⟨HO, HX, HB⟩ : _ ∧ _ ∧ _ := ⟨HO', HX', HB'⟩
  clear HO' HX' HB'
  obtain ⟨Ao, co, rfl⟩ := Kd.R_slice HO.out
  obtain ⟨L2, hL⟩ : ∃ l, l = L1 ++ nums (layB a1 4) := ⟨_, rfl⟩
  have hn2 : L2.length ≤ 5 := by rw [hL]; simp only [List.length_append, jC, iL]; omega
  rw [← hL] at HO ⊢
  have HL2 := iC.mk hL
  clear hL hn1
  obtain ⟨z0, z1, z2, z3, z4, z5, z6, z7, z8, z9, y0, y1, y2, y3, y4, y5, y6, y7, y8, y9⟩ := ten HX.out
  have hcall := kV (fun k => w.heap.size < k) _ L2 (a7) (IntKind.u64.wrap a7) 4 4 w w2 (by first | rfl | (rw [wrap_u64]; omega)) rfl (by omega) (by omega) HB.out HO.out
  go_wp2_with fail
  go_at_call 57
  (with_reducible refine hcall.mono ?_)
  clear hcall z0 z1 z2 z3 z4 z5 z6 z7 z8 z9 y0 y1 y2 y3 y4 y5 y6 y7 y8 y9
  rintro e w3 ⟨v3, rfl, ho, hb, hk⟩
  have HO' := iC.mk (Kd.R_mono (ok' := fun k => w.heap.size < k) ho (fun k h => h.elim id (fun h => Nat.lt_of_lt_of_le (jE HX.out) h)))
  have HX' := iC.mk (kP hk HX.out)
  have HB' := iC.mk hb
  clear ho hb hk HO HX HB
  obtain ⟨HO, HX, HB⟩ : _ ∧ _ ∧ _ := ⟨HO', HX', HB'⟩
  clear HO' HX' HB'
  obtain ⟨Ao, co, rfl⟩ := Kd.R_slice HO.out
  obtain ⟨L3, hL⟩ : ∃ l, l = L2 ++ nums (layB a7 4) := ⟨_, rfl⟩
  have hn3 : L3.length ≤ 9 := by rw [hL]; simp only [List.length_append, jC, iL]; omega
  rw [← hL] at HO ⊢
  have HL3 := iC.mk hL
  clear hL hn2
  obtain ⟨z0, z1, z2, z3, z4, z5, z6, z7, z8, z9, y0, y1, y2, y3, y4, y5, y6, y7, y8, y9⟩ := ten HX.out
  have hcall := kV (fun k => w.heap.size < k) _ L3 (a8) (IntKind.u64.wrap a8) 4 4 w w3 (by first | rfl | (rw [wrap_u64]; omega)) rfl (by omega) (by omega) HB.out HO.out
  go_wp2_with fail
  go_at_call 57
  (with_reducible refine hcall.mono ?_)
  clear hcall z0 z1 z2 z3 z4 z5 z6 z7 z8 z9 y0 y1 y2 y3 y4 y5 y6 y7 y8 y9
  rintro e w4 ⟨v4, rfl, ho, hb, hk⟩
  have HO' := iC.mk (Kd.R_mono (ok' := fun k => w.heap.size < k) ho (fun k h => h.elim id (fun h => Nat.lt_of_lt_of_le (jE HX.out) h)))
  have HX' := iC.mk (kP hk HX.out)
  have HB' := iC.mk hb
  clear ho hb hk HO HX HB
  obtain ⟨HO, HX, HB⟩ : _ ∧ _ ∧ _ := ⟨HO', HX', HB'⟩
  clear HO' HX' HB'
  obtain ⟨Ao, co, rfl⟩ := Kd.R_slice HO.out
  obtain ⟨L4, hL⟩ : ∃ l, l = L3 ++ nums (layB a8 4) := ⟨_, rfl⟩
  have hn4 : L4.length ≤ 13 := by rw [hL]; simp only [List.length_append, jC, iL]; omega
  rw [← hL] at HO ⊢
  have HL4 := iC.mk hL
  clear hL hn3
  obtain ⟨z0, z1, z2, z3, z4, z5, z6, z7, z8, z9, y0, y1, y2, y3, y4, y5, y6, y7, y8, y9⟩ := ten HX.out
  have hcall := vZ (fun k => w.heap.size < k) _ L4 A9 c9 l9 w w4 (by omega) HB.out HO.out (fun k h => Nat.le_of_lt h) H9.out d9
  go_wp2_with fail
  go_at_call 60
  (with_reducible refine hcall.mono ?_)
  clear hcall z0 z1 z2 z3 z4 z5 z6 z7 z8 z9 y0 y1 y2 y3 y4 y5 y6 y7 y8 y9
  rintro e w5 ⟨v5, rfl, ho, hb, hk⟩
  have HO' := iC.mk (Kd.R_mono (ok' := fun k => w.heap.size < k) ho (fun k h => h.elim id (fun h => Nat.lt_of_lt_of_le (jE HX.out) h)))
  have HX' := iC.mk (kP hk HX.out)
  have HB' := iC.mk hb
  clear ho hb hk HO HX HB
  obtain ⟨HO, HX, HB⟩ : _ ∧ _ ∧ _ := ⟨HO', HX', HB'⟩
  clear HO' HX' HB'
  obtain ⟨Ao, co, rfl⟩ := Kd.R_slice HO.out
  obtain ⟨L5, hL⟩ : ∃ l, l = L4 ++ nums (jS l9) := ⟨_, rfl⟩
  have hn5 : L5.length ≤ 25040017 := by rw [hL]; simp only [List.length_append, jC, iL]; omega
  rw [← hL] at HO ⊢
  have HL5 := iC.mk hL
  clear hL hn4
  obtain ⟨z0, z1, z2, z3, z4, z5, z6, z7, z8, z9, y0, y1, y2, y3, y4, y5, y6, y7, y8, y9⟩ := ten HX.out
  have HLX := iC.mk (show L5 = nums X from by rw [HL5.out, HL4.out, HL3.out, HL2.out, HL1.out, HXX.out, WF]; simp only [List.nil_append, nums_append]; rfl)
  by_cases hq : (60000 : Int) < (L5.length : Int)
  · have HP : iC (r = ([], 3)) := ⟨by rw [HRR.out, if_pos (by rw [HLX.out, jC] at hq; omega)]⟩
    go_wp2_with fail
    go_ret2
    rw [HP.out]
    exact ⟨_, rfl, Kd.R_nil _ _ _ _ _, HB.out⟩
  · have HP : iC (r = (nums X, 0)) := ⟨by rw [HRR.out, if_neg (by rw [HLX.out, jC] at hq; omega)]⟩
    go_wp2_with fail
    go_ret2
    rw [HP.out]
    exact ⟨_, rfl, by rw [← HLX.out]; exact Kd.R_mono HO.out (fun _ _ => trivial), HB.out⟩
set_option maxHeartbeats 8000000 in
set_option maxRecDepth 20000 in
theorem QK (hs : jJ ⟨6, a1, a2, l3, l4, ⟨a5, l6⟩, a7, a8, l9⟩ = true) : Calls Tryd.prog 18 #[.agg #[.int .u8 6, .int .u32 a1, .int .u32 a2, .slice A3 l3.length c3, .slice A4 l4.length c4, .int .u32 a5, .slice A6 l6.length c6, .int .i64 a7, .int .i64 a8, .slice A9 l9.length c9]] w (nU w (encR ⟨6, a1, a2, l3, l4, ⟨a5, l6⟩, a7, a8, l9⟩)) := by
  obtain ⟨kk, hsk⟩ := (oN 6 a1 a2 l3 l4 a5 l6 a7 a8 l9 (qQ h3 h4 h6 h9)).rounds
  rw [hs] at hsk
  have H3 := iC.mk h3; have H4 := iC.mk h4; have H6 := iC.mk h6; have H9 := iC.mk h9
  have hbw : Below w.heap.size w (w.alloc (.cells #[.int .u8 6, .int .u32 a1, .int .u32 a2, .slice A3 l3.length c3, .slice A4 l4.length c4, .int .u32 a5, .slice A6 l6.length c6, .int .i64 a7, .int .i64 a8, .slice A9 l9.length c9] 30)) := iF (Below.refl _ _) _
  have hsnd := stratumref07_Sound.calls kk 6 a1 a2 A3 c3 l3 A4 c4 l4 a5 A6 c6 l6 a7 a8 A9 c9 l9 true (w.alloc (.cells #[.int .u8 6, .int .u32 a1, .int .u32 a2, .slice A3 l3.length c3, .slice A4 l4.length c4, .int .u32 a5, .slice A6 l6.length c6, .int .i64 a7, .int .i64 a8, .slice A9 l9.length c9] 30)) (Kd.C_below h3 hbw) d3 (Kd.C_below h4 hbw) d4 (Kd.C_below h6 hbw) d6 (Kd.C_below h9 hbw) d9 hsk
  have HS := iC.mk hs
  have q6 : l6.length ≤ 40 := by
    have h := HS.out
    rw [PL, Bool.and_eq_true, Bool.and_eq_true, Bool.and_eq_true] at h
    have := of_decide_eq_true h.1.1.2
    omega
  unfold encR
  rw [if_pos HS.out]
  obtain ⟨X, hX⟩ : ∃ X : List UInt8, X = recE ⟨6, a1, a2, l3, l4, ⟨a5, l6⟩, a7, a8, l9⟩ := ⟨_, rfl⟩
  rw [← hX]
  have HXX := iC.mk hX
  obtain ⟨r, hr⟩ : ∃ r : List Int × Int, r = (if 60000 < X.length then ([], 3) else (nums X, 0)) := ⟨_, rfl⟩
  rw [← hr]
  have HRR := iC.mk hr
  clear hr hs hX hsk hbw h3 h4 h6 h9
  go_enter Tryd.func18, Tryd.ntmps18
  go_wp2_with fail
  go_at_call 20
  (with_reducible refine hsnd.mono ?_)
  clear hsnd
  rintro e w0 ⟨rfl, hb1⟩
  have hB0 : Below w.heap.size w w0 := iH (iF (Below.refl _ _) _) hb1
  have hX0 : w0.heap[w.heap.size]? = some (.cells #[.int .u8 6, .int .u32 a1, .int .u32 a2, .slice A3 l3.length c3, .slice A4 l4.length c4, .int .u32 a5, .slice A6 l6.length c6, .int .i64 a7, .int .i64 a8, .slice A9 l9.length c9] 30 (0, 0)) := iJ hb1 (iM rfl)
  obtain ⟨z0, z1, z2, z3, z4, z5, z6, z7, z8, z9, y0, y1, y2, y3, y4, y5, y6, y7, y8, y9⟩ := ten hX0
  have HO := iC.mk (JU w0 w.heap.size 6 w.heap.size hB0.size (jE hX0))
  have HB := iC.mk (iF hB0 (.cells #[.int .u8 6] 5))
  have HX := iC.mk (jD (o := .cells #[.int .u8 6] 5) hX0)
  have HW1 := iC.mk (show w0.alloc (.cells #[.int .u8 6] 5) = w0.alloc (.cells #[.int .u8 6] 5) from rfl)
  clear hb1 hB0 hX0
  go_upto_region 4 with fail
  clear z0 z1 z2 z3 z4 z5 z6 z7 z8 z9 y0 y1 y2 y3 y4 y5 y6 y7 y8 y9
  obtain ⟨w1, hw1⟩ : ∃ x, x = w0.alloc (.cells #[.int .u8 6] 5) := ⟨_, rfl⟩
  rw [← hw1] at HO HB HX ⊢
  clear HW1
  have HW1 := iC.mk hw1
  clear hw1
  obtain ⟨L1, hL⟩ : ∃ l, l = [(6 : Int)] := ⟨_, rfl⟩
  have hn1 : L1.length ≤ 1 := by rw [hL]; simp
  rw [← hL] at HO
  have HL1 := iC.mk hL
  clear hL
  obtain ⟨z0, z1, z2, z3, z4, z5, z6, z7, z8, z9, y0, y1, y2, y3, y4, y5, y6, y7, y8, y9⟩ := ten HX.out
  have hcall := kV (fun k => w.heap.size < k) (.slice (some ⟨w0.heap.size, 0, none⟩) 1 1) L1 (a1) (IntKind.u64.wrap a1) 4 4 w w1 (by first | rfl | (rw [wrap_u64]; omega)) rfl (by omega) (by omega) HB.out HO.out
  go_wp2_with fail
  go_at_call 57
  (with_reducible refine hcall.mono ?_)
  clear hcall z0 z1 z2 z3 z4 z5 z6 z7 z8 z9 y0 y1 y2 y3 y4 y5 y6 y7 y8 y9
  rintro e w2 ⟨v2, rfl, ho, hb, hk⟩
  have HO' := iC.mk (Kd.R_mono (ok' := fun k => w.heap.size < k) ho (fun k h => h.elim id (fun h => Nat.lt_of_lt_of_le (jE HX.out) h)))
  have HX' := iC.mk (kP hk HX.out)
  have HB' := iC.mk hb
  clear ho hb hk HO HX HB
  obtain ⟨HO, HX, HB⟩ : _ ∧ _ ∧ _ := ⟨HO', HX', HB'⟩
  clear HO' HX' HB'
  obtain ⟨Ao, co, rfl⟩ := Kd.R_slice HO.out
  obtain ⟨L2, hL⟩ : ∃ l, l = L1 ++ nums (layB a1 4) := ⟨_, rfl⟩
  have hn2 : L2.length ≤ 5 := by rw [hL]; simp only [List.length_append, jC, iL]; omega
  rw [← hL] at HO ⊢
  have HL2 := iC.mk hL
  clear hL hn1
  obtain ⟨z0, z1, z2, z3, z4, z5, z6, z7, z8, z9, y0, y1, y2, y3, y4, y5, y6, y7, y8, y9⟩ := ten HX.out
  have hcall := kV (fun k => w.heap.size < k) _ L2 (a5) (IntKind.u64.wrap a5) 4 4 w w2 (by first | rfl | (rw [wrap_u64]; omega)) rfl (by omega) (by omega) HB.out HO.out
  go_wp2_with fail
  go_at_call 57
  (with_reducible refine hcall.mono ?_)
  clear hcall z0 z1 z2 z3 z4 z5 z6 z7 z8 z9 y0 y1 y2 y3 y4 y5 y6 y7 y8 y9
  rintro e w3 ⟨v3, rfl, ho, hb, hk⟩
  have HO' := iC.mk (Kd.R_mono (ok' := fun k => w.heap.size < k) ho (fun k h => h.elim id (fun h => Nat.lt_of_lt_of_le (jE HX.out) h)))
  have HX' := iC.mk (kP hk HX.out)
  have HB' := iC.mk hb
  clear ho hb hk HO HX HB
  obtain ⟨HO, HX, HB⟩ : _ ∧ _ ∧ _ := ⟨HO', HX', HB'⟩
  clear HO' HX' HB'
  obtain ⟨Ao, co, rfl⟩ := Kd.R_slice HO.out
  obtain ⟨L3, hL⟩ : ∃ l, l = L2 ++ nums (layB a5 4) := ⟨_, rfl⟩
  have hn3 : L3.length ≤ 9 := by rw [hL]; simp only [List.length_append, jC, iL]; omega
  rw [← hL] at HO ⊢
  have HL3 := iC.mk hL
  clear hL hn2
  obtain ⟨z0, z1, z2, z3, z4, z5, z6, z7, z8, z9, y0, y1, y2, y3, y4, y5, y6, y7, y8, y9⟩ := ten HX.out
  have hcall := kV (fun k => w.heap.size < k) _ L3 ((l6.length : Int)) ((l6.length : Int)) 1 1 w w3 (by first | rfl | (rw [wrap_u64]; omega)) rfl (by omega) (by omega) HB.out HO.out
  go_wp2_with fail
  go_at_call 57
  (with_reducible refine hcall.mono ?_)
  clear hcall z0 z1 z2 z3 z4 z5 z6 z7 z8 z9 y0 y1 y2 y3 y4 y5 y6 y7 y8 y9
  rintro e w4 ⟨v4, rfl, ho, hb, hk⟩
  have HO' := iC.mk (Kd.R_mono (ok' := fun k => w.heap.size < k) ho (fun k h => h.elim id (fun h => Nat.lt_of_lt_of_le (jE HX.out) h)))
  have HX' := iC.mk (kP hk HX.out)
  have HB' := iC.mk hb
  clear ho hb hk HO HX HB
  obtain ⟨HO, HX, HB⟩ : _ ∧ _ ∧ _ := ⟨HO', HX', HB'⟩
  clear HO' HX' HB'
  obtain ⟨Ao, co, rfl⟩ := Kd.R_slice HO.out
  obtain ⟨L4, hL⟩ : ∃ l, l = L3 ++ nums (layB (l6.length : Int) 1) := ⟨_, rfl⟩
  have hn4 : L4.length ≤ 10 := by rw [hL]; simp only [List.length_append, jC, iL]; omega
  rw [← hL] at HO ⊢
  have HL4 := iC.mk hL
  clear hL hn3
  obtain ⟨z0, z1, z2, z3, z4, z5, z6, z7, z8, z9, y0, y1, y2, y3, y4, y5, y6, y7, y8, y9⟩ := ten HX.out
  go_wp2_with fail
  clear z0 z1 z2 z3 z4 z5 z6 z7 z8 z9 y0 y1 y2 y3 y4 y5 y6 y7 y8 y9
  go_loopg [4, 5] l6.length (fun gg s4 s5 wr => ∃ k : Nat, k ≤ l6.length ∧ l6.length - k ≤ gg ∧ s5 = .int .i64 k ∧ iC (Kd.R (Kd.int .u8) 5 wr w.heap.size (fun k => w.heap.size < k) s4 (L4 ++ nums ((l6.take k).flatMap nT))) ∧ iC (Below w.heap.size w wr) ∧ iC (wr.heap[w.heap.size]? = some (.cells #[.int .u8 6, .int .u32 a1, .int .u32 a2, .slice A3 l3.length c3, .slice A4 l4.length c4, .int .u32 a5, .slice A6 l6.length c6, .int .i64 a7, .int .i64 a8, .slice A9 l9.length c9] 30 (0, 0))))
  case atStart => exact ⟨0, Nat.zero_le _, by omega, rfl, ⟨by simpa [nums] using HO.out⟩, HB, HX⟩
  case round =>
    clear HO HB HX
    obtain ⟨k, hk, hg, rfl, HO, HB, HX⟩ := hrel
    obtain ⟨Ao, co, rfl⟩ := Kd.R_slice HO.out
    by_cases hlt : k < l6.length
    · have HT := iC.mk (kG nT z98 l6 k hlt)
      obtain ⟨w5, rfl⟩ : ∃ x : World, x = wr := ⟨_, rfl⟩
      obtain ⟨L5, hL⟩ : ∃ L, L = L4 ++ nums ((l6.take k).flatMap nT) := ⟨_, rfl⟩
      have hn5 : L5.length ≤ 210 := by rw [hL]; have h1 := oG nT l6 k; rw [vP l6] at h1; simp only [List.length_append, jC]; omega
      rw [← hL] at HO ⊢
      have HL5 := iC.mk hL
      clear hL
      obtain ⟨ad, eA, gx0, gx1⟩ := lT H6.out k (by omega) (by omega)
      cases eA
      simp only [Int.toNat_natCast] at gx0 gx1
      have hx0 := jW HB.out gx0
      have hx1 := jW HB.out gx1
      have HG := iC.mk (And.intro gx0 gx1)
      clear gx0 gx1
      have HSP := iC.mk (show jO l6 k = l6.getD k z98 from by unfold jO; rw [Int.toNat_natCast])
      generalize jO l6 k = sp at HSP hx0 hx1 HG ⊢
      obtain ⟨z0, z1, z2, z3, z4, z5, z6, z7, z8, z9, y0, y1, y2, y3, y4, y5, y6, y7, y8, y9⟩ := ten HX.out
      have hcall := kV (fun k => w.heap.size < k) _ L5 (sp.f0) (IntKind.u64.wrap sp.f0) 4 4 w w5 (by first | rfl | (rw [wrap_u64]; omega)) rfl (by omega) (by omega) HB.out HO.out
      go_wp2_with fail
      go_at_call 57
      (with_reducible refine hcall.mono ?_)
      clear hcall z0 z1 z2 z3 z4 z5 z6 z7 z8 z9 y0 y1 y2 y3 y4 y5 y6 y7 y8 y9
      rintro e w6 ⟨v6, rfl, ho, hb, hk⟩
      have HO' := iC.mk (Kd.R_mono (ok' := fun k => w.heap.size < k) ho (fun k h => h.elim id (fun h => Nat.lt_of_lt_of_le (jE HX.out) h)))
      have HX' := iC.mk (kP hk HX.out)
      have HB' := iC.mk hb
      clear ho hb hk HO HX HB
      obtain ⟨HO, HX, HB⟩ : _ ∧ _ ∧ _ := ⟨HO', HX', HB'⟩
      clear HO' HX' HB'
      obtain ⟨Ao, co, rfl⟩ := Kd.R_slice HO.out
      obtain ⟨L6, hL⟩ : ∃ l, l = L5 ++ nums (layB sp.f0 4) := ⟨_, rfl⟩
      have hn6 : L6.length ≤ 214 := by rw [hL]; simp only [List.length_append, jC, iL]; omega
      rw [← hL] at HO ⊢
      have HL6 := iC.mk hL
      clear hL hn5
      clear hx0 hx1
      have hx0 := jW HB.out HG.out.1
      have hx1 := jW HB.out HG.out.2
      obtain ⟨z0, z1, z2, z3, z4, z5, z6, z7, z8, z9, y0, y1, y2, y3, y4, y5, y6, y7, y8, y9⟩ := ten HX.out
      have hcall := kV (fun k => w.heap.size < k) _ L6 (sp.f1) (IntKind.u64.wrap sp.f1) 1 1 w w6 (by first | rfl | (rw [wrap_u64]; omega)) rfl (by omega) (by omega) HB.out HO.out
      go_wp2_with fail
      go_at_call 57
      (with_reducible refine hcall.mono ?_)
      clear hcall z0 z1 z2 z3 z4 z5 z6 z7 z8 z9 y0 y1 y2 y3 y4 y5 y6 y7 y8 y9
      rintro e w7 ⟨v7, rfl, ho, hb, hk⟩
      have HO' := iC.mk (Kd.R_mono (ok' := fun k => w.heap.size < k) ho (fun k h => h.elim id (fun h => Nat.lt_of_lt_of_le (jE HX.out) h)))
      have HX' := iC.mk (kP hk HX.out)
      have HB' := iC.mk hb
      clear ho hb hk HO HX HB
      obtain ⟨HO, HX, HB⟩ : _ ∧ _ ∧ _ := ⟨HO', HX', HB'⟩
      clear HO' HX' HB'
      obtain ⟨Ao, co, rfl⟩ := Kd.R_slice HO.out
      obtain ⟨L7, hL⟩ : ∃ l, l = L6 ++ nums (layB sp.f1 1) := ⟨_, rfl⟩
      have hn7 : L7.length ≤ 215 := by rw [hL]; simp only [List.length_append, jC, iL]; omega
      rw [← hL] at HO ⊢
      have HL7 := iC.mk hL
      clear hL hn6
      clear hx0 hx1
      have HE := iC.mk (show L7 = L4 ++ nums ((l6.take (k + 1)).flatMap nT) from by rw [HT.out, ← HSP.out, HL7.out, HL6.out, HL5.out]; unfold nT; simp only [nums_append, List.append_assoc])
      go_wp2_with fail
      go_roundg (l6.length - (k + 1))
      case measure => omega
      case rel => exact ⟨k + 1, by omega, by omega, by go_num, ⟨by rw [← HE.out]; exact HO.out⟩, HB, HX⟩
    · have : k = l6.length := by omega
      subst this
      obtain ⟨w5, rfl⟩ : ∃ x : World, x = wr := ⟨_, rfl⟩
      obtain ⟨L5, hL⟩ : ∃ L, L = L4 ++ nums (l6.flatMap nT) := ⟨_, rfl⟩
      rw [List.take_length] at HO ⊢
      rw [← hL] at HO ⊢
      have HL5 := iC.mk hL
      clear hL
      obtain ⟨z0, z1, z2, z3, z4, z5, z6, z7, z8, z9, y0, y1, y2, y3, y4, y5, y6, y7, y8, y9⟩ := ten HX.out
      have HLX := iC.mk (show L5 = nums X from by rw [HL5.out, HL4.out, HL3.out, HL2.out, HL1.out, HXX.out, VY]; simp only [List.nil_append, nums_append]; rfl)
      by_cases hq : (60000 : Int) < (L5.length : Int)
      · have HP : iC (r = ([], 3)) := ⟨by rw [HRR.out, if_pos (by rw [HLX.out, jC] at hq; omega)]⟩
        go_wp2_with fail
        go_ret2
        rw [HP.out]
        exact ⟨_, rfl, Kd.R_nil _ _ _ _ _, HB.out⟩
      · have HP : iC (r = (nums X, 0)) := ⟨by rw [HRR.out, if_neg (by rw [HLX.out, jC] at hq; omega)]⟩
        go_wp2_with fail
        go_ret2
        rw [HP.out]
        exact ⟨_, rfl, by rw [← HLX.out]; exact Kd.R_mono HO.out (fun _ _ => trivial), HB.out⟩
end
end Go.Proofs.YtgfkgppomaapiaaDoor.K
end

section
namespace Go.Proofs.YtgfkgppomaapiaaDoor.K
open RowKit YtgfkgppomaapiaaDoorW.PrintWords YtgfkgppomaapiaaDoorW.PrintLast YtgfkgppomaapiaaDoorW.PrintMore My
theorem O9 : (Tryd.prog).built 30 (#[] : Array (Nat × Value)).toList = some #[.int .u8 0, .int .u32 0, .int .u32 0, .slice none 0 0, .slice none 0 0, .int .u32 0, .slice none 0 0, .int .i64 0, .int .i64 0, .slice none 0 0] := by kernel_rfl
theorem QF (w : World) : (Instr.build 30 #[]).run Tryd.prog w = .ok (.agg #[.int .u8 0, .int .u32 0, .int .u32 0, .slice none 0 0, .slice none 0 0, .int .u32 0, .slice none 0 0, .int .i64 0, .int .i64 0, .slice none 0 0]) w := run_build w _ _ _ O9
theorem PQ {w : World} {b : Nat} {c0 : Value} (x : Bool) (h : w.heap[b]? = some (.cells #[c0] 4 (0, 0))) : (Instr.storeAt 4 (.pointer (some ⟨b, 0, none⟩)) (.bool x)).run Tryd.prog w = .ok () (w.setCell ⟨b, 0, none⟩ (.bool x)) := by
  have z : w.cell? ⟨b, 0, none⟩ = some c0 := (iE h 0).trans rfl
  have y : w.frozen? ⟨b, 0, none⟩ = false := iD h 0
  simp [go_sem, z, y]
theorem U9 (w : World) : (Instr.storeAt 148 (.pointer (some ⟨w.heap.size, 0, none⟩)) (.agg #[])).run Tryd.prog (w.alloc (.cells #[] 148)) = .ok () (w.alloc (.cells #[] 148)) :=
  run_storeAt_new (P := Tryd.prog) w _ #[] #[] (by kernel_rfl) rfl (by simp)
theorem VC {w : World} {b : Nat} {x : Bool} (h : w.heap[b]? = some (.cells #[.bool x] 4 (0, 0))) : (Instr.loadAt 4 (.pointer (some ⟨b, 0, none⟩))).run Tryd.prog w = .ok (.bool x) w := by
  have z : w.cell? ⟨b, 0, none⟩ = some (.bool x) := (iE h 0).trans rfl
  simp [go_sem, z]
theorem PU (w : World) (A : Option Addr) (n c : Nat) : (Instr.build 151 #[(0, .slice A n c)]).run Tryd.prog w = .ok (.agg #[.slice A n c]) w := run_build w _ _ _ (by kernel_rfl)
theorem UA (w : World) : (Instr.typeAssert (.iface 148 (.agg #[])) 20 148 true).run Tryd.prog w = .ok (.tuple #[.agg #[], .bool true]) w := by
  have hu : (Tryd.prog).underlying 148 = some (.struct #[]) := by kernel_rfl
  simp [Instr.typeAssert, run_underlying hu]
attribute [-go_sem] Instr.build Instr.storeAt
attribute [local go_sem] QF PU U9 UA
set_option maxRecDepth 20000 in
theorem MR (bx bi : Nat) (w : World) (hx : w.heap[bx]? = some (.cells #[.int .u8 0, .int .u32 0, .int .u32 0, .slice none 0 0, .slice none 0 0, .int .u32 0, .slice none 0 0, .int .i64 0, .int .i64 0, .slice none 0 0] 30 (0, 0))) (hi : w.heap[bi]? = some (.cells #[.bool false] 4 (0, 0))) (hne : bx ≠ bi) :
    CallsD Tryd.prog 96 #[.pointer (some ⟨bx, 0, none⟩), .pointer (some ⟨bi, 0, none⟩)] (.panicking zK) w fun e u' w' =>
      e = .returned (.tuple #[]) ∧ u' = .panicking [{ v := .iface 148 (.agg #[]), recovered := true }] ∧ w' = ((w.alloc (.cells #[] 148)).setRow bx #[.int .u8 0, .int .u32 0, .int .u32 0, .slice none 0 0, .slice none 0 0, .int .u32 0, .slice none 0 0, .int .i64 0, .int .i64 0, .slice none 0 0]).setCell ⟨bi, 0, none⟩ (.bool false) := by
  have hx1 : (w.alloc (.cells #[] 148)).heap[bx]? = some (.cells #[.int .u8 0, .int .u32 0, .int .u32 0, .slice none 0 0, .slice none 0 0, .int .u32 0, .slice none 0 0, .int .i64 0, .int .i64 0, .slice none 0 0] 30 (0, 0)) := jD hx
  have hi1 : ((w.alloc (.cells #[] 148)).setRow bx #[.int .u8 0, .int .u32 0, .int .u32 0, .slice none 0 0, .slice none 0 0, .int .u32 0, .slice none 0 0, .int .i64 0, .int .i64 0, .slice none 0 0]).heap[bi]? = some (.cells #[.bool false] 4 (0, 0)) := by rw [setRow_other _ _ _ _ (fun e => hne e.symm)]; exact jD hi
  have hs1 := fun (_ : True) => lF (a := 0) (k := 0) (i := 0) (x3 := .slice none 0 0) (x4 := .slice none 0 0) (j := 0) (x6 := .slice none 0 0) (p := 0) (q := 0) (x9 := .slice none 0 0) hx1 rfl rfl rfl rfl
  have hs2 := fun (_ : True) => PQ false hi1
  clear hx1 hi1 hx hi
  refine callsD_of_wpS Tryd.func96 rfl fun c₀ cs hu => ?_
  simp only [Tryd.ntmps96, List.size_toArray, List.length_cons, List.length_nil, Nat.reduceAdd, Nat.reduceSub, Array.replicate_succ,
     Array.replicate_zero, List.push_toArray, List.append_toArray, List.nil_append, List.cons_append]
  apply wpS_seq
  apply wpS_region
  simp [wpOpsS, go_sem, recoverD, hu, Exit.thenS, zK]
  refine wpS_of_wp ?_
  go_wp2
  cases c₀
  simp_all [bodyPostS, results, Tryd.results96]
theorem OT (bx bi : Nat) (w : World) :
    CallsD Tryd.prog 96 #[.pointer (some ⟨bx, 0, none⟩), .pointer (some ⟨bi, 0, none⟩)] .returning w fun e u' w' =>
      e = .returned (.tuple #[]) ∧ u' = .returning ∧ w' = w := by
  refine callsD_of_wpS Tryd.func96 rfl fun c₀ cs hu => ?_
  simp only [Tryd.ntmps96, List.size_toArray, List.length_cons, List.length_nil, Nat.reduceAdd, Nat.reduceSub, Array.replicate_succ,
     Array.replicate_zero, List.push_toArray, List.append_toArray, List.nil_append, List.cons_append]
  apply wpS_seq
  apply wpS_region
  simp [wpOpsS, go_sem, recoverD, hu, Exit.thenS]
  refine wpS_of_wp ?_
  go_wp2
  cases c₀
  simp_all [bodyPostS, results, Tryd.results96]
theorem J7 {tmps : Array Value} {W : World} {bx bi : Nat} {cs : Array Value} {x : Bool} {R : Ending → World → Prop} (hp : tmps.getD 2 undef = .pointer (some ⟨bx, 0, none⟩)) (hq : tmps.getD 3 undef = .pointer (some ⟨bi, 0, none⟩))
    (hx : W.heap[bx]? = some (.cells cs 30 (0, 0))) (hs : cs.size = 10) (hi : W.heap[bi]? = some (.cells #[.bool x] 4 (0, 0))) (hR : R (.returned (.tuple #[.agg cs, .bool x])) W) : Leaves Tryd.prog Tryd.f74 tmps R [] .returning W := by
  refine ⟨_, ?_, hR⟩
  have h : Tryd.f74.results = #[.cell 2 30, .cell 3 4] := rfl
  have hp' : tmps[2]?.getD undef = .pointer (some ⟨bx, 0, none⟩) := by simpa using hp
  have hq' : tmps[3]?.getD undef = .pointer (some ⟨bi, 0, none⟩) := by simpa using hq
  have h1 := run_loadVar_row (P := Tryd.prog) W bx 30 30 cs (0, 0) _ hx Tryd.underlying30 rfl (by rw [hs]; kernel_rfl)
  have h2 := VC hi
  simp only [Instr.loadAt, Instr.sureAddr, Sem.run_bind, Sem.run_pure, Result.andThen] at h2
  simp [results, h, hp', hq', asAddr, h1, h2]
theorem rJ {base : Nat} {x : SRec} {v : Value} {w w' : World} {g : Nat} (h : RecV base x v w) (hg : w.grownBy w' (some g)) (hlt : g < base) : RecV base x v w' := by
  obtain ⟨v3, v4, v6, v9, rfl, h3, h4, h6, h9⟩ := h
  exact ⟨v3, v4, v6, v9, rfl, jP h3 hg hlt, jP h4 hg hlt, jP h6 hg hlt, jP h9 hg hlt⟩
theorem zA {base base' : Nat} {x : SRec} {v : Value} {w : World} (h : RecV base x v w) (hle : base' ≤ base) : RecV base' x v w := by
  obtain ⟨v3, v4, v6, v9, rfl, h3, h4, h6, h9⟩ := h
  exact ⟨v3, v4, v6, v9, rfl, Kd.R_lower h3 hle, Kd.R_lower h4 hle, Kd.R_lower h6 hle, Kd.R_lower h9 hle⟩
theorem JC {w : World} {b : Nat} {c0 : Value} {t : Nat} (v : Value) (h : w.heap[b]? = some (.cells #[c0] t (0, 0))) : (w.setCell ⟨b, 0, none⟩ v).heap[b]? = some (.cells #[v] t (0, 0)) := by
  rw [setCell_eq_setRow w b 0 #[c0] t (0, 0) v h]
  exact setRow_heap w b _ _ _ _ h
theorem zN {w : World} {b i k : Nat} (v : Value) (hne : k ≠ b) : (w.setCell ⟨b, i, none⟩ v).heap[k]? = w.heap[k]? := Below.heap_setCell _ _ _ _ hne
set_option maxRecDepth 20000 in
theorem PT (A : Option Addr) (c : Nat) (l : List UInt8) (w : World) (hC : kb.C w A l.length l) (hc : l.length ≤ c) (hm : (l.length : Int) ≤ 100000) :
    Calls Tryd.prog 74 #[.slice A l.length c] w fun e w' => Below w.heap.size w w' ∧
      ((∃ x r v, recP l = some (x, r) ∧ e = .returned (.tuple #[v, .bool true]) ∧ RecV w.heap.size x v w') ∨ (recP l = none ∧ e = .returned (.tuple #[.agg #[.int .u8 0, .int .u32 0, .int .u32 0, .slice none 0 0, .slice none 0 0, .int .u32 0, .slice none 0 0, .int .i64 0, .int .i64 0, .slice none 0 0], .bool false]))) := by
  have hmf : ∀ (fn : Fn) (first cap : Array Value) (w : World), (Instr.makeFunc fn first cap).run Tryd.prog w = .ok (.func fn first cap) w := fun _ _ _ _ => rfl
  have HC := iC.mk hC
  obtain ⟨WR, hWR⟩ : ∃ WR, WR = ((w.alloc (.cells #[.int .u8 0, .int .u32 0, .int .u32 0, .slice none 0 0, .slice none 0 0, .int .u32 0, .slice none 0 0, .int .i64 0, .int .i64 0, .slice none 0 0] 30)).alloc (.cells #[.bool false] 4)).alloc (.cells #[.slice A l.length c] 151) := ⟨_, rfl⟩
  have HW := iC.mk hWR
  have hB : Below w.heap.size w WR := by rw [hWR]; exact iF (iF (iF (Below.refl _ _) _) _) _
  have HR := iC.mk (show Rd w WR (w.heap.size + 2) l from ⟨A, c, by rw [hWR]; exact iM (by simp), hc, hC⟩)
  have HX := iC.mk (show WR.heap[w.heap.size]? = some (.cells #[.int .u8 0, .int .u32 0, .int .u32 0, .slice none 0 0, .slice none 0 0, .int .u32 0, .slice none 0 0, .int .i64 0, .int .i64 0, .slice none 0 0] 30 (0, 0)) from by rw [hWR]; exact jD (jD (iM rfl)))
  have HI := iC.mk (show WR.heap[w.heap.size + 1]? = some (.cells #[.bool false] 4 (0, 0)) from by rw [hWR]; exact jD (iM (by simp)))
  have HB := iC.mk hB
  have hsz : WR.heap.size = w.heap.size + 3 := by rw [hWR]; simp
  clear hC hWR hB
  go_enter_defers Tryd.func74, Tryd.ntmps74
  go_wp2_with fail
  rw [← HW.out]
  refine (U8 (w.heap.size + 2) l w WR HR.out HB.out (by omega) hm).mono ?_
  intro e w1 hpp
  cases hp : recP l with
  | none =>
    obtain ⟨rfl, hG⟩ := hpp.short hp
    clear hpp
    have hx1 := (hG.block _ (jE HX.out) (fun e => by injection e with e; omega)).trans HX.out
    have hi1 := (hG.block _ (jE HI.out) (fun e => by injection e with e; omega)).trans HI.out
    have HX1 := iC.mk hx1
    have HI1 := iC.mk hi1
    clear hx1 hi1
    go_wp2
    refine leaves_cons (f := 96) (args := #[.pointer (some ⟨w.heap.size, 0, none⟩), .pointer (some ⟨w.heap.size + 1, 0, none⟩)]) (by simp) (by simp [go_sem]) ?_
    refine (MR w.heap.size (w.heap.size + 1) w1 HX1.out HI1.out (by omega)).mono ?_
    rintro e u' w2 ⟨rfl, rfl, rfl⟩
    have hB2 := below_grown HB.out hG (by omega) (Nat.le_refl _)
    have hx2 := (zN (i := 0) (.bool false) (show w.heap.size ≠ w.heap.size + 1 by omega)).trans (setRow_heap (w1.alloc (.cells #[] 148)) w.heap.size _ #[.int .u8 0, .int .u32 0, .int .u32 0, .slice none 0 0, .slice none 0 0, .int .u32 0, .slice none 0 0, .int .i64 0, .int .i64 0, .slice none 0 0] _ _ (jD HX1.out))
    have hi2 := JC (.bool false) ((setRow_other (w1.alloc (.cells #[] 148)) w.heap.size (w.heap.size + 1) #[.int .u8 0, .int .u32 0, .int .u32 0, .slice none 0 0, .slice none 0 0, .int .u32 0, .slice none 0 0, .int .i64 0, .int .i64 0, .slice none 0 0] (by omega)).trans (jD HI1.out))
    refine J7 rfl rfl hx2 rfl hi2 ⟨?_, .inr ⟨hp, rfl⟩⟩
    exact iK (below_grown (iF hB2 _) (jA _ w.heap.size _) (Nat.le_refl _) (Nat.le_refl _)) (by show _ ≤ _; simp)
  | some y =>
    obtain ⟨x, r⟩ := y
    obtain ⟨v, rfl, hv, hR, hG⟩ := hpp.ok hp
    obtain ⟨v3, v4, v6, v9, rfl, h3, h4, h6, h9⟩ := hv
    obtain ⟨A3, d3, rfl⟩ := Kd.R_slice h3
    obtain ⟨A4, d4, rfl⟩ := Kd.R_slice h4
    obtain ⟨A6, d6, rfl⟩ := Kd.R_slice h6
    obtain ⟨A9, d9, rfl⟩ := Kd.R_slice h9
    have hx1 := (hG.block _ (jE HX.out) (fun e => by injection e with e; omega)).trans HX.out
    have hi1 := (hG.block _ (jE HI.out) (fun e => by injection e with e; omega)).trans HI.out
    have hs1 := fun (_ : True) => lF (a := x.f0) (k := x.f1) (i := x.f2) (x3 := .slice A3 x.f3.length d3) (x4 := .slice A4 x.f4.length d4) (j := x.f5.f0) (x6 := .slice A6 x.f5.f1.length d6) (p := x.f6) (q := x.f7) (x9 := .slice A9 x.f8.length d9) hx1 rfl rfl rfl rfl
    have hi2 := (setRow_other w1 w.heap.size (w.heap.size + 1) #[.int .u8 x.f0, .int .u32 x.f1, .int .u32 x.f2, .slice A3 x.f3.length d3, .slice A4 x.f4.length d4, .int .u32 x.f5.f0, .slice A6 x.f5.f1.length d6, .int .i64 x.f6, .int .i64 x.f7, .slice A9 x.f8.length d9] (by omega)).trans hi1
    have hs2 := fun (_ : True) => PQ true hi2
    have HX1 := iC.mk hx1
    have HI2 := iC.mk hi2
    clear hpp hx1 hi1 hi2
    go_wp2
    refine leaves_cons (f := 96) (args := #[.pointer (some ⟨w.heap.size, 0, none⟩), .pointer (some ⟨w.heap.size + 1, 0, none⟩)]) (by simp) (by simp [go_sem]) ?_
    refine (OT w.heap.size (w.heap.size + 1) _).mono ?_
    rintro e u' w2 ⟨rfl, rfl, rfl⟩
    have hB2 := below_grown HB.out hG (by omega) (Nat.le_refl _)
    have hx2 := (zN (i := 0) (.bool true) (show w.heap.size ≠ w.heap.size + 1 by omega)).trans (setRow_heap w1 w.heap.size _ #[.int .u8 x.f0, .int .u32 x.f1, .int .u32 x.f2, .slice A3 x.f3.length d3, .slice A4 x.f4.length d4, .int .u32 x.f5.f0, .slice A6 x.f5.f1.length d6, .int .i64 x.f6, .int .i64 x.f7, .slice A9 x.f8.length d9] _ _ HX1.out)
    have hi2 := JC (.bool true) HI2.out
    refine J7 rfl rfl hx2 rfl hi2 ⟨?_, .inl ⟨x, r, _, hp, rfl, ?_⟩⟩
    · exact iK (below_grown hB2 (jA _ w.heap.size _) (Nat.le_refl _) (Nat.le_refl _)) (by show _ ≤ _; simp)
    · exact zA (rJ (rJ ⟨_, _, _, _, rfl, h3, h4, h6, h9⟩ (jA w1 w.heap.size _) (by omega)) (kL _ (w.heap.size + 1) 0 _) (by omega)) (by omega)
end Go.Proofs.YtgfkgppomaapiaaDoor.K
end

section
namespace Go.Proofs.YtgfkgppomaapiaaDoor.K
open Go.RowKit Go.Proofs.YtgfkgppomaapiaaDoorW.PrintWords Go.Proofs.YtgfkgppomaapiaaDoorW.PrintLast Go.Proofs.YtgfkgppomaapiaaDoorW.PrintMore
def bytes_Equal.f (l0 : List Int) (l1 : List Int) : Option (Bool) := some ((strOfNums l0).toList == (strOfNums l1).toList)
set_option maxHeartbeats 8000000 in
set_option maxRecDepth 100000 in
theorem bytes_Equal.calls (A0 : Option Addr) (c0 : Nat) (l0 : List Int) (A1 : Option Addr) (c1 : Nat) (l1 : List Int) (r : Bool) (w : World) (hr0 : Kd.C (Kd.int .u8) w A0 l0.length l0) (hc0 : l0.length ≤ c0) (hr1 : Kd.C (Kd.int .u8) w A1 l1.length l1) (hc1 : l1.length ≤ c1) (h : bytes_Equal.f l0 l1 = some r) :
    Calls Tryd.prog 75 #[.slice A0 l0.length c0, .slice A1 l1.length c1] w fun e w' => e = .returned (.bool r) ∧ jB w w' := by
  have HR0 := iC.mk hr0
  have HC0 := iC.mk hc0
  clear hr0 hc0
  have HR1 := iC.mk hr1
  have HC1 := iC.mk hc1
  clear hr1 hc1
  have H : (some ((strOfNums l0).toList == (strOfNums l1).toList)) = some r := h
  clear h
  obtain rfl := Option.some.inj H
  have hcv3 := Kd.C_string (P := Tryd.prog) (A := A0) (c := c0) Tryd.underlying33 Tryd.underlying5 Tryd.underlying9 HR0.out
  have hcv4 := Kd.C_string (P := Tryd.prog) (A := A1) (c := c1) Tryd.underlying33 Tryd.underlying5 Tryd.underlying9 HR1.out
  go_enter Tryd.func75, Tryd.ntmps75
  go_wp2
  go_ret
  exact ⟨by first | rfl | (simp; done) | (simp [*]; done), by repeat (first | exact jB.refl _ | apply jB.step)⟩
end Go.Proofs.YtgfkgppomaapiaaDoor.K
end
