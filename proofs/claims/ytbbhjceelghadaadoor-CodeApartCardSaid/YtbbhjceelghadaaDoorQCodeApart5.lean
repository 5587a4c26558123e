/- Parts of the proof, one behind the other: CodeE, K39, K40, K41, RefP, RefN, RefE, ReadN, ReadL, ReadS, Region, RegCS. -/
import Derived.Test.YtbbhjceelghadaaDoorQCodeApart4
import Derived.Lib.BufferMore
set_option linter.unusedVariables false
set_option linter.unusedSimpArgs false
section
namespace Go.Proofs.YtbbhjceelghadaaDoor.K
open Go Go.RowKit Go.Proofs.YtbbhjceelghadaaDoorW.PrintWords Go.Proofs.YtbbhjceelghadaaDoorW.PrintLast Go.Proofs.YtbbhjceelghadaaDoorW.PrintMore Go.Proofs.YtbbhjceelghadaaDoor.My
def nums (l : List UInt8) : List Int := l.map fun c => (c.toNat : Int)
theorem lY (l : List UInt8) : (nums l).length = l.length := List.length_map ..
/-- What code.Encode answers. -/
def encR (r : SRec) : List Int × Int := if jT r = true then (if 60000 < (recE r).length then ([], 3) else (nums (recE r), 0)) else ([], 1)
def code_Encode.f (a0_0 : Int) (a0_1 : Int) (a0_2 : Int) (l0_3 : List Int) (l0_4 : List jK) (a0_5 : Int) (l0_6 : List jW) (a0_7 : Int) (a0_8 : Int) (l0_9 : List jF) : Option (List Int × Int) :=
  some (encR ⟨a0_0, a0_1, a0_2, l0_3, l0_4, ⟨a0_5, l0_6⟩, a0_7, a0_8, l0_9⟩)
theorem oZ {w : World} {B base : Nat} {v : Value} {l : List UInt8} (h : w.ownsRow B 5 1 v (Lib.byteCells l).length (Lib.byteCells l)) (hb : base ≤ B) : Kd.R (Kd.int .u8) 5 w base (fun _ => True) v (nums l) := by
  refine Kd.R_lower (Kd.R_of_own ?_ (fun _ _ => trivial)) hb
  have e : Lib.byteCells l = encs (Value.int .u8) (nums l) := by simp [Lib.byteCells, encs, nums]
  have e2 : (nums l).length = (Lib.byteCells l).length := by rw [lY, Lib.byteCells_length]
  rw [e2, ← e]
  exact h
theorem jA (l : List Int) : (qM l).length = 1 + l.length := by unfold qM; rw [List.length_append, iU, zG]; omega
def pI (w : World) (r : List Int × Int) (e : Ending) (w' : World) : Prop := ∃ v0_ : Value, e = .returned (.tuple #[v0_, .int .u16 r.2]) ∧ Kd.R (Kd.int .u8) 5 w' w.heap.size (fun _ => True) v0_ r.1 ∧ Below w.heap.size w w'
theorem UU (a1 a2 : Int) (l3 : List Int) (l4 : List jK) (a5 : Int) (l6 : List jW) (a7 a8 : Int) (l9 : List jF) : recE ⟨1, a1, a2, l3, l4, ⟨a5, l6⟩, a7, a8, l9⟩ = [] ++ layB 1 1 ++ layB a1 4 ++ qM l3 ++ kH l4 := by
  simp [recE, xY]
theorem VJ (a1 a2 : Int) (l3 : List Int) (l4 : List jK) (a5 : Int) (l6 : List jW) (a7 a8 : Int) (l9 : List jF) : recE ⟨2, a1, a2, l3, l4, ⟨a5, l6⟩, a7, a8, l9⟩ = [] ++ layB 2 1 ++ layB a1 4 ++ layB a2 4 ++ qM l3 := by
  simp [recE, xY]
theorem UW (a1 a2 : Int) (l3 : List Int) (l4 : List jK) (a5 : Int) (l6 : List jW) (a7 a8 : Int) (l9 : List jF) : recE ⟨3, a1, a2, l3, l4, ⟨a5, l6⟩, a7, a8, l9⟩ = [] ++ layB 3 1 ++ layB a1 4 := by
  simp [recE, xY]
theorem VA (a1 a2 : Int) (l3 : List Int) (l4 : List jK) (a5 : Int) (l6 : List jW) (a7 a8 : Int) (l9 : List jF) : recE ⟨4, a1, a2, l3, l4, ⟨a5, l6⟩, a7, a8, l9⟩ = [] ++ layB 4 1 ++ layB a1 4 := by
  simp [recE, xY]
theorem UY (a1 a2 : Int) (l3 : List Int) (l4 : List jK) (a5 : Int) (l6 : List jW) (a7 a8 : Int) (l9 : List jF) : recE ⟨5, a1, a2, l3, l4, ⟨a5, l6⟩, a7, a8, l9⟩ = [] ++ layB 5 1 ++ layB a1 4 := by
  simp [recE, xY]
theorem V4 (a1 a2 : Int) (l3 : List Int) (l4 : List jK) (a5 : Int) (l6 : List jW) (a7 a8 : Int) (l9 : List jF) : recE ⟨7, a1, a2, l3, l4, ⟨a5, l6⟩, a7, a8, l9⟩ = [] ++ layB 7 1 ++ layB a1 4 ++ layB a7 4 ++ layB a8 4 ++ jR l9 := by
  simp [recE, xY]
theorem VD (a1 a2 : Int) (l3 : List Int) (l4 : List jK) (a5 : Int) (l6 : List jW) (a7 a8 : Int) (l9 : List jF) : recE ⟨6, a1, a2, l3, l4, ⟨a5, l6⟩, a7, a8, l9⟩ = [] ++ layB 6 1 ++ layB a1 4 ++ layB a5 4 ++ layB l6.length 1 ++ l6.flatMap nY := by
  simp [recE, xY, MJ]
theorem yX (l : List jW) : (l.flatMap nY).length = 5 * l.length := by
  induction l with
  | nil => rfl
  | cons x l ih => rw [List.flatMap_cons, List.length_append, ih, nY, List.length_append, iU, iU, List.length_cons]; omega
theorem O9 (l : List jW) (k : Nat) : jO l (k : Int) = l.getD k xB := by unfold jO xB; rw [Int.toNat_natCast]
section
variable (a0 a1 a2 : Int) (A3 : Option Addr) (c3 : Nat) (l3 : List Int) (A4 : Option Addr) (c4 : Nat) (l4 : List jK) (a5 : Int) (A6 : Option Addr) (c6 : Nat) (l6 : List jW) (a7 a8 : Int) (A9 : Option Addr) (c9 : Nat) (l9 : List jF) (w : World)
  (h3 : Kd.C (Kd.int .i64) w A3 l3.length l3) (d3 : l3.length ≤ c3) (h4 : Kd.C k76 w A4 l4.length l4) (d4 : l4.length ≤ c4) (h6 : Kd.C k132 w A6 l6.length l6) (d6 : l6.length ≤ c6) (h9 : Kd.C k124 w A9 l9.length l9) (d9 : l9.length ≤ c9)
include h3 d3 h4 d4 h6 d6 h9 d9
set_option maxHeartbeats 8000000 in
set_option maxRecDepth 20000 in
theorem QJ (hs : jT ⟨1, a1, a2, l3, l4, ⟨a5, l6⟩, a7, a8, l9⟩ = true) : Calls Tryd.prog 39 #[.agg #[.int .u8 1, .int .u32 a1, .int .u32 a2, .slice A3 l3.length c3, .slice A4 l4.length c4, .int .u32 a5, .slice A6 l6.length c6, .int .i64 a7, .int .i64 a8, .slice A9 l9.length c9]] w (pI w (encR ⟨1, a1, a2, l3, l4, ⟨a5, l6⟩, a7, a8, l9⟩)) := by
  have H3 := iE.mk h3; have H4 := iE.mk h4; have H6 := iE.mk h6; have H9 := iE.mk h9
  clear h3 h4 h6 h9
  have HS := iE.mk hs
  have hl3 : l3.length ≤ 6 ∧ (kH l4).length ≤ 5004 := by
    have h := HS.out
    rw [TC, Bool.and_eq_true, Bool.and_eq_true] at h
    exact ⟨rF _ h.1.1, vI _ h.1.2⟩
  obtain ⟨q3, q4⟩ := hl3
  unfold encR
  rw [if_pos HS.out]
  have hm3 := lK H3.out
  have hm6 := lK H6.out
  obtain ⟨X, hX⟩ : ∃ X : List UInt8, X = recE ⟨1, a1, a2, l3, l4, ⟨a5, l6⟩, a7, a8, l9⟩ := ⟨_, rfl⟩
  rw [← hX]
  have HX := iE.mk hX
  have HLEN := iE.mk (show X.length = _ from congrArg List.length (hX.trans (UU _ _ _ _ _ _ _ _ _)))
  clear hs hX
  by_cases hbig : 60000 < X.length
  · rw [if_pos hbig]
    have hbigI : (60000 : Int) < (X.length : Int) := by omega
    clear hbig
    go_enter Tryd.func39, Tryd.ntmps39
    go_wp2_with (first | (go_at_call 41; refine (code_Sound.calls 1 a1 a2 A3 c3 l3 A4 c4 l4 a5 A6 c6 l6 a7 a8 A9 c9 l9 _ _ (Kd.C_below H3.out bel_) d3 (Kd.C_below H4.out bel_) d4 (Kd.C_below H6.out bel_) d6 (Kd.C_below H9.out bel_) d9 rfl).mono ?_; rintro e w1 ⟨rfl, hb1⟩; rw [HS.out]; have HBW := iE.mk (show Below w.heap.size w w1 from iL (iG (Below.refl _ _) _) hb1); have HBK := iE.mk (iP hb1 (jE rfl)); clear hb1; have HI0 := iE.mk (Bf.fresh w1); have HK0 := iE.mk ((Kp.refl w1.heap.size w1.heap.size w1).alloc (Nat.le_refl _) (.cells #[.slice none 0 0, .int .i64 0, .int .i8 0] 111)); obtain ⟨z0, z1, z2, z3, z4, z5, z6, z7, z8, z9, y0, y1, y2, y3, y4, y5, y6, y7, y8, y9⟩ := ten (jP (o := (.cells #[.slice none 0 0, .int .i64 0, .int .i8 0] 111)) HBK.out); clear y0 y1 y2 y3 y4 y5 y6 y7 y8 y9) | (go_at_call 80; refine (nZ w1.heap.size w1.heap.size _ _ _ HI0.out HK0.out.1.size (by first | omega | (simp only [List.length_append, iU, List.length_nil, jA]; omega))).mono ?_; rintro e w2 ⟨rfl, hI, hK⟩; have HI1 := iE.mk hI; have HK1 := iE.mk (HK0.out.trans hK); clear hI hK z0 z1 z2 z3 z4 z5 z6 z7 z8 z9; obtain ⟨z0, z1, z2, z3, z4, z5, z6, z7, z8, z9, y0, y1, y2, y3, y4, y5, y6, y7, y8, y9⟩ := ten (iP HK1.out.1 HBK.out); clear y0 y1 y2 y3 y4 y5 y6 y7 y8 y9) | (go_at_call 81; refine (lI w1.heap.size w1.heap.size _ _ _ HI1.out HK1.out.1.size (by first | omega | (simp only [List.length_append, iU, List.length_nil, jA]; omega))).mono ?_; rintro e w3 ⟨rfl, hI, hK⟩; have HI2 := iE.mk hI; have HK2 := iE.mk (HK1.out.trans hK); clear hI hK z0 z1 z2 z3 z4 z5 z6 z7 z8 z9; obtain ⟨z0, z1, z2, z3, z4, z5, z6, z7, z8, z9, y0, y1, y2, y3, y4, y5, y6, y7, y8, y9⟩ := ten (iP HK2.out.1 HBK.out); clear y0 y1 y2 y3 y4 y5 y6 y7 y8 y9) | (go_at_call 82; refine (rM w1.heap.size _ _ _ l3 w1 _ HI2.out HK2.out.1 (Kd.C_below H3.out HBW.out) (by first | omega | (simp only [List.length_append, iU, List.length_nil, jA]; omega))).mono ?_; rintro e w4 ⟨rfl, hI, hK⟩; have HI3 := iE.mk hI; have HK3 := iE.mk (HK2.out.trans hK); clear hI hK z0 z1 z2 z3 z4 z5 z6 z7 z8 z9; obtain ⟨z0, z1, z2, z3, z4, z5, z6, z7, z8, z9, y0, y1, y2, y3, y4, y5, y6, y7, y8, y9⟩ := ten (iP HK3.out.1 HBK.out); clear y0 y1 y2 y3 y4 y5 y6 y7 y8 y9) | (go_at_call 83; refine (xH w1.heap.size _ _ _ l4 w1 _ HI3.out HK3.out.1 (Kd.C_below H4.out HBW.out) (by first | omega | (simp only [List.length_append, iU, List.length_nil, jA]; omega))).mono ?_; rintro e w5 ⟨rfl, hI, hK⟩; have HI4 := iE.mk hI; have HK4 := iE.mk (HK3.out.trans hK); clear hI hK z0 z1 z2 z3 z4 z5 z6 z7 z8 z9; obtain ⟨z0, z1, z2, z3, z4, z5, z6, z7, z8, z9, y0, y1, y2, y3, y4, y5, y6, y7, y8, y9⟩ := ten (iP HK4.out.1 HBK.out); clear y0 y1 y2 y3 y4 y5 y6 y7 y8 y9) | (go_at_call 68; refine (Tryd.Buffer_Len w1.heap.size w1.heap.size _ _ (HI4.out)).mono ?_; rintro e wl ⟨rfl, nl, rfl⟩; rw [Lib.byteCells_length, ← HLEN.out]))
    go_ret2
    exact ⟨_, rfl, Kd.R_nil _ _ _ _ _, by have hz := HBW.out; have hy := HK4.out.1; exact iF (iL hz hy) _⟩
  · rw [if_neg hbig]
    have hbigI : ¬ (60000 : Int) < (X.length : Int) := by omega
    clear hbig
    go_enter Tryd.func39, Tryd.ntmps39
    go_wp2_with (first | (go_at_call 41; refine (code_Sound.calls 1 a1 a2 A3 c3 l3 A4 c4 l4 a5 A6 c6 l6 a7 a8 A9 c9 l9 _ _ (Kd.C_below H3.out bel_) d3 (Kd.C_below H4.out bel_) d4 (Kd.C_below H6.out bel_) d6 (Kd.C_below H9.out bel_) d9 rfl).mono ?_; rintro e w1 ⟨rfl, hb1⟩; rw [HS.out]; have HBW := iE.mk (show Below w.heap.size w w1 from iL (iG (Below.refl _ _) _) hb1); have HBK := iE.mk (iP hb1 (jE rfl)); clear hb1; have HI0 := iE.mk (Bf.fresh w1); have HK0 := iE.mk ((Kp.refl w1.heap.size w1.heap.size w1).alloc (Nat.le_refl _) (.cells #[.slice none 0 0, .int .i64 0, .int .i8 0] 111)); obtain ⟨z0, z1, z2, z3, z4, z5, z6, z7, z8, z9, y0, y1, y2, y3, y4, y5, y6, y7, y8, y9⟩ := ten (jP (o := (.cells #[.slice none 0 0, .int .i64 0, .int .i8 0] 111)) HBK.out); clear y0 y1 y2 y3 y4 y5 y6 y7 y8 y9) | (go_at_call 80; refine (nZ w1.heap.size w1.heap.size _ _ _ HI0.out HK0.out.1.size (by first | omega | (simp only [List.length_append, iU, List.length_nil, jA]; omega))).mono ?_; rintro e w2 ⟨rfl, hI, hK⟩; have HI1 := iE.mk hI; have HK1 := iE.mk (HK0.out.trans hK); clear hI hK z0 z1 z2 z3 z4 z5 z6 z7 z8 z9; obtain ⟨z0, z1, z2, z3, z4, z5, z6, z7, z8, z9, y0, y1, y2, y3, y4, y5, y6, y7, y8, y9⟩ := ten (iP HK1.out.1 HBK.out); clear y0 y1 y2 y3 y4 y5 y6 y7 y8 y9) | (go_at_call 81; refine (lI w1.heap.size w1.heap.size _ _ _ HI1.out HK1.out.1.size (by first | omega | (simp only [List.length_append, iU, List.length_nil, jA]; omega))).mono ?_; rintro e w3 ⟨rfl, hI, hK⟩; have HI2 := iE.mk hI; have HK2 := iE.mk (HK1.out.trans hK); clear hI hK z0 z1 z2 z3 z4 z5 z6 z7 z8 z9; obtain ⟨z0, z1, z2, z3, z4, z5, z6, z7, z8, z9, y0, y1, y2, y3, y4, y5, y6, y7, y8, y9⟩ := ten (iP HK2.out.1 HBK.out); clear y0 y1 y2 y3 y4 y5 y6 y7 y8 y9) | (go_at_call 82; refine (rM w1.heap.size _ _ _ l3 w1 _ HI2.out HK2.out.1 (Kd.C_below H3.out HBW.out) (by first | omega | (simp only [List.length_append, iU, List.length_nil, jA]; omega))).mono ?_; rintro e w4 ⟨rfl, hI, hK⟩; have HI3 := iE.mk hI; have HK3 := iE.mk (HK2.out.trans hK); clear hI hK z0 z1 z2 z3 z4 z5 z6 z7 z8 z9; obtain ⟨z0, z1, z2, z3, z4, z5, z6, z7, z8, z9, y0, y1, y2, y3, y4, y5, y6, y7, y8, y9⟩ := ten (iP HK3.out.1 HBK.out); clear y0 y1 y2 y3 y4 y5 y6 y7 y8 y9) | (go_at_call 83; refine (xH w1.heap.size _ _ _ l4 w1 _ HI3.out HK3.out.1 (Kd.C_below H4.out HBW.out) (by first | omega | (simp only [List.length_append, iU, List.length_nil, jA]; omega))).mono ?_; rintro e w5 ⟨rfl, hI, hK⟩; have HI4 := iE.mk hI; have HK4 := iE.mk (HK3.out.trans hK); clear hI hK z0 z1 z2 z3 z4 z5 z6 z7 z8 z9; obtain ⟨z0, z1, z2, z3, z4, z5, z6, z7, z8, z9, y0, y1, y2, y3, y4, y5, y6, y7, y8, y9⟩ := ten (iP HK4.out.1 HBK.out); clear y0 y1 y2 y3 y4 y5 y6 y7 y8 y9) | (go_at_call 68; refine (Tryd.Buffer_Len w1.heap.size w1.heap.size _ _ (HI4.out)).mono ?_; rintro e wl ⟨rfl, nl, rfl⟩; rw [Lib.byteCells_length, ← HLEN.out]) | (go_at_call 73; refine (Tryd.Buffer_Bytes w1.heap.size w1.heap.size _ _ (HI4.out.drewN _)).mono ?_; rintro e wb ⟨v, rfl, hv, nb, rfl⟩; have HV := iE.mk hv; clear hv))
    go_ret2
    exact ⟨_, rfl, by rw [HX.out, UU]; exact oZ HV.out HBW.out.size, by have hz := HBW.out; have hy := HK4.out.1; exact iF (iL hz hy) _⟩
set_option maxHeartbeats 8000000 in
set_option maxRecDepth 20000 in
theorem RV (hs : jT ⟨2, a1, a2, l3, l4, ⟨a5, l6⟩, a7, a8, l9⟩ = true) : Calls Tryd.prog 39 #[.agg #[.int .u8 2, .int .u32 a1, .int .u32 a2, .slice A3 l3.length c3, .slice A4 l4.length c4, .int .u32 a5, .slice A6 l6.length c6, .int .i64 a7, .int .i64 a8, .slice A9 l9.length c9]] w (pI w (encR ⟨2, a1, a2, l3, l4, ⟨a5, l6⟩, a7, a8, l9⟩)) := by
  have H3 := iE.mk h3; have H4 := iE.mk h4; have H6 := iE.mk h6; have H9 := iE.mk h9
  clear h3 h4 h6 h9
  have HS := iE.mk hs
  have q3 : l3.length ≤ 6 := by
    have h := HS.out
    rw [TG, Bool.and_eq_true] at h
    exact rF _ h.1
  unfold encR
  rw [if_pos HS.out]
  have hm3 := lK H3.out
  have hm6 := lK H6.out
  obtain ⟨X, hX⟩ : ∃ X : List UInt8, X = recE ⟨2, a1, a2, l3, l4, ⟨a5, l6⟩, a7, a8, l9⟩ := ⟨_, rfl⟩
  rw [← hX]
  have HX := iE.mk hX
  have HLEN := iE.mk (show X.length = _ from congrArg List.length (hX.trans (VJ _ _ _ _ _ _ _ _ _)))
  clear hs hX
  by_cases hbig : 60000 < X.length
  · rw [if_pos hbig]
    have hbigI : (60000 : Int) < (X.length : Int) := by omega
    clear hbig
    go_enter Tryd.func39, Tryd.ntmps39
    go_wp2_with (first | (go_at_call 41; refine (code_Sound.calls 2 a1 a2 A3 c3 l3 A4 c4 l4 a5 A6 c6 l6 a7 a8 A9 c9 l9 _ _ (Kd.C_below H3.out bel_) d3 (Kd.C_below H4.out bel_) d4 (Kd.C_below H6.out bel_) d6 (Kd.C_below H9.out bel_) d9 rfl).mono ?_; rintro e w1 ⟨rfl, hb1⟩; rw [HS.out]; have HBW := iE.mk (show Below w.heap.size w w1 from iL (iG (Below.refl _ _) _) hb1); have HBK := iE.mk (iP hb1 (jE rfl)); clear hb1; have HI0 := iE.mk (Bf.fresh w1); have HK0 := iE.mk ((Kp.refl w1.heap.size w1.heap.size w1).alloc (Nat.le_refl _) (.cells #[.slice none 0 0, .int .i64 0, .int .i8 0] 111)); obtain ⟨z0, z1, z2, z3, z4, z5, z6, z7, z8, z9, y0, y1, y2, y3, y4, y5, y6, y7, y8, y9⟩ := ten (jP (o := (.cells #[.slice none 0 0, .int .i64 0, .int .i8 0] 111)) HBK.out); clear y0 y1 y2 y3 y4 y5 y6 y7 y8 y9) | (go_at_call 80; refine (nZ w1.heap.size w1.heap.size _ _ _ HI0.out HK0.out.1.size (by first | omega | (simp only [List.length_append, iU, List.length_nil, jA]; omega))).mono ?_; rintro e w2 ⟨rfl, hI, hK⟩; have HI1 := iE.mk hI; have HK1 := iE.mk (HK0.out.trans hK); clear hI hK z0 z1 z2 z3 z4 z5 z6 z7 z8 z9; obtain ⟨z0, z1, z2, z3, z4, z5, z6, z7, z8, z9, y0, y1, y2, y3, y4, y5, y6, y7, y8, y9⟩ := ten (iP HK1.out.1 HBK.out); clear y0 y1 y2 y3 y4 y5 y6 y7 y8 y9) | (go_at_call 81; refine (lI w1.heap.size w1.heap.size _ _ _ HI1.out HK1.out.1.size (by first | omega | (simp only [List.length_append, iU, List.length_nil, jA]; omega))).mono ?_; rintro e w3 ⟨rfl, hI, hK⟩; have HI2 := iE.mk hI; have HK2 := iE.mk (HK1.out.trans hK); clear hI hK z0 z1 z2 z3 z4 z5 z6 z7 z8 z9; obtain ⟨z0, z1, z2, z3, z4, z5, z6, z7, z8, z9, y0, y1, y2, y3, y4, y5, y6, y7, y8, y9⟩ := ten (iP HK2.out.1 HBK.out); clear y0 y1 y2 y3 y4 y5 y6 y7 y8 y9) | (go_at_call 81; refine (lI w1.heap.size w1.heap.size _ _ _ HI2.out HK2.out.1.size (by first | omega | (simp only [List.length_append, iU, List.length_nil, jA]; omega))).mono ?_; rintro e w4 ⟨rfl, hI, hK⟩; have HI3 := iE.mk hI; have HK3 := iE.mk (HK2.out.trans hK); clear hI hK z0 z1 z2 z3 z4 z5 z6 z7 z8 z9; obtain ⟨z0, z1, z2, z3, z4, z5, z6, z7, z8, z9, y0, y1, y2, y3, y4, y5, y6, y7, y8, y9⟩ := ten (iP HK3.out.1 HBK.out); clear y0 y1 y2 y3 y4 y5 y6 y7 y8 y9) | (go_at_call 82; refine (rM w1.heap.size _ _ _ l3 w1 _ HI3.out HK3.out.1 (Kd.C_below H3.out HBW.out) (by first | omega | (simp only [List.length_append, iU, List.length_nil, jA]; omega))).mono ?_; rintro e w5 ⟨rfl, hI, hK⟩; have HI4 := iE.mk hI; have HK4 := iE.mk (HK3.out.trans hK); clear hI hK z0 z1 z2 z3 z4 z5 z6 z7 z8 z9; obtain ⟨z0, z1, z2, z3, z4, z5, z6, z7, z8, z9, y0, y1, y2, y3, y4, y5, y6, y7, y8, y9⟩ := ten (iP HK4.out.1 HBK.out); clear y0 y1 y2 y3 y4 y5 y6 y7 y8 y9) | (go_at_call 68; refine (Tryd.Buffer_Len w1.heap.size w1.heap.size _ _ (HI4.out)).mono ?_; rintro e wl ⟨rfl, nl, rfl⟩; rw [Lib.byteCells_length, ← HLEN.out]))
    go_ret2
    exact ⟨_, rfl, Kd.R_nil _ _ _ _ _, by have hz := HBW.out; have hy := HK4.out.1; exact iF (iL hz hy) _⟩
  · rw [if_neg hbig]
    have hbigI : ¬ (60000 : Int) < (X.length : Int) := by omega
    clear hbig
    go_enter Tryd.func39, Tryd.ntmps39
    go_wp2_with (first | (go_at_call 41; refine (code_Sound.calls 2 a1 a2 A3 c3 l3 A4 c4 l4 a5 A6 c6 l6 a7 a8 A9 c9 l9 _ _ (Kd.C_below H3.out bel_) d3 (Kd.C_below H4.out bel_) d4 (Kd.C_below H6.out bel_) d6 (Kd.C_below H9.out bel_) d9 rfl).mono ?_; rintro e w1 ⟨rfl, hb1⟩; rw [HS.out]; have HBW := iE.mk (show Below w.heap.size w w1 from iL (iG (Below.refl _ _) _) hb1); have HBK := iE.mk (iP hb1 (jE rfl)); clear hb1; have HI0 := iE.mk (Bf.fresh w1); have HK0 := iE.mk ((Kp.refl w1.heap.size w1.heap.size w1).alloc (Nat.le_refl _) (.cells #[.slice none 0 0, .int .i64 0, .int .i8 0] 111)); obtain ⟨z0, z1, z2, z3, z4, z5, z6, z7, z8, z9, y0, y1, y2, y3, y4, y5, y6, y7, y8, y9⟩ := ten (jP (o := (.cells #[.slice none 0 0, .int .i64 0, .int .i8 0] 111)) HBK.out); clear y0 y1 y2 y3 y4 y5 y6 y7 y8 y9) | (go_at_call 80; refine (nZ w1.heap.size w1.heap.size _ _ _ HI0.out HK0.out.1.size (by first | omega | (simp only [List.length_append, iU, List.length_nil, jA]; omega))).mono ?_; rintro e w2 ⟨rfl, hI, hK⟩; have HI1 := iE.mk hI; have HK1 := iE.mk (HK0.out.trans hK); clear hI hK z0 z1 z2 z3 z4 z5 z6 z7 z8 z9; obtain ⟨z0, z1, z2, z3, z4, z5, z6, z7, z8, z9, y0, y1, y2, y3, y4, y5, y6, y7, y8, y9⟩ := ten (iP HK1.out.1 HBK.out); clear y0 y1 y2 y3 y4 y5 y6 y7 y8 y9) | (go_at_call 81; refine (lI w1.heap.size w1.heap.size _ _ _ HI1.out HK1.out.1.size (by first | omega | (simp only [List.length_append, iU, List.length_nil, jA]; omega))).mono ?_; rintro e w3 ⟨rfl, hI, hK⟩; have HI2 := iE.mk hI; have HK2 := iE.mk (HK1.out.trans hK); clear hI hK z0 z1 z2 z3 z4 z5 z6 z7 z8 z9; obtain ⟨z0, z1, z2, z3, z4, z5, z6, z7, z8, z9, y0, y1, y2, y3, y4, y5, y6, y7, y8, y9⟩ := ten (iP HK2.out.1 HBK.out); clear y0 y1 y2 y3 y4 y5 y6 y7 y8 y9) | (go_at_call 81; refine (lI w1.heap.size w1.heap.size _ _ _ HI2.out HK2.out.1.size (by first | omega | (simp only [List.length_append, iU, List.length_nil, jA]; omega))).mono ?_; rintro e w4 ⟨rfl, hI, hK⟩; have HI3 := iE.mk hI; have HK3 := iE.mk (HK2.out.trans hK); clear hI hK z0 z1 z2 z3 z4 z5 z6 z7 z8 z9; obtain ⟨z0, z1, z2, z3, z4, z5, z6, z7, z8, z9, y0, y1, y2, y3, y4, y5, y6, y7, y8, y9⟩ := ten (iP HK3.out.1 HBK.out); clear y0 y1 y2 y3 y4 y5 y6 y7 y8 y9) | (go_at_call 82; refine (rM w1.heap.size _ _ _ l3 w1 _ HI3.out HK3.out.1 (Kd.C_below H3.out HBW.out) (by first | omega | (simp only [List.length_append, iU, List.length_nil, jA]; omega))).mono ?_; rintro e w5 ⟨rfl, hI, hK⟩; have HI4 := iE.mk hI; have HK4 := iE.mk (HK3.out.trans hK); clear hI hK z0 z1 z2 z3 z4 z5 z6 z7 z8 z9; obtain ⟨z0, z1, z2, z3, z4, z5, z6, z7, z8, z9, y0, y1, y2, y3, y4, y5, y6, y7, y8, y9⟩ := ten (iP HK4.out.1 HBK.out); clear y0 y1 y2 y3 y4 y5 y6 y7 y8 y9) | (go_at_call 68; refine (Tryd.Buffer_Len w1.heap.size w1.heap.size _ _ (HI4.out)).mono ?_; rintro e wl ⟨rfl, nl, rfl⟩; rw [Lib.byteCells_length, ← HLEN.out]) | (go_at_call 73; refine (Tryd.Buffer_Bytes w1.heap.size w1.heap.size _ _ (HI4.out.drewN _)).mono ?_; rintro e wb ⟨v, rfl, hv, nb, rfl⟩; have HV := iE.mk hv; clear hv))
    go_ret2
    exact ⟨_, rfl, by rw [HX.out, VJ]; exact oZ HV.out HBW.out.size, by have hz := HBW.out; have hy := HK4.out.1; exact iF (iL hz hy) _⟩
set_option maxHeartbeats 8000000 in
set_option maxRecDepth 20000 in
theorem QQ (hs : jT ⟨3, a1, a2, l3, l4, ⟨a5, l6⟩, a7, a8, l9⟩ = true) : Calls Tryd.prog 39 #[.agg #[.int .u8 3, .int .u32 a1, .int .u32 a2, .slice A3 l3.length c3, .slice A4 l4.length c4, .int .u32 a5, .slice A6 l6.length c6, .int .i64 a7, .int .i64 a8, .slice A9 l9.length c9]] w (pI w (encR ⟨3, a1, a2, l3, l4, ⟨a5, l6⟩, a7, a8, l9⟩)) := by
  have H3 := iE.mk h3; have H4 := iE.mk h4; have H6 := iE.mk h6; have H9 := iE.mk h9
  clear h3 h4 h6 h9
  have HS := iE.mk hs
  unfold encR
  rw [if_pos HS.out]
  have hm3 := lK H3.out
  have hm6 := lK H6.out
  obtain ⟨X, hX⟩ : ∃ X : List UInt8, X = recE ⟨3, a1, a2, l3, l4, ⟨a5, l6⟩, a7, a8, l9⟩ := ⟨_, rfl⟩
  rw [← hX]
  have HX := iE.mk hX
  have HLEN := iE.mk (show X.length = _ from congrArg List.length (hX.trans (UW _ _ _ _ _ _ _ _ _)))
  clear hs hX
  by_cases hbig : 60000 < X.length
  · rw [if_pos hbig]
    have hbigI : (60000 : Int) < (X.length : Int) := by omega
    clear hbig
    go_enter Tryd.func39, Tryd.ntmps39
    go_wp2_with (first | (go_at_call 41; refine (code_Sound.calls 3 a1 a2 A3 c3 l3 A4 c4 l4 a5 A6 c6 l6 a7 a8 A9 c9 l9 _ _ (Kd.C_below H3.out bel_) d3 (Kd.C_below H4.out bel_) d4 (Kd.C_below H6.out bel_) d6 (Kd.C_below H9.out bel_) d9 rfl).mono ?_; rintro e w1 ⟨rfl, hb1⟩; rw [HS.out]; have HBW := iE.mk (show Below w.heap.size w w1 from iL (iG (Below.refl _ _) _) hb1); have HBK := iE.mk (iP hb1 (jE rfl)); clear hb1; have HI0 := iE.mk (Bf.fresh w1); have HK0 := iE.mk ((Kp.refl w1.heap.size w1.heap.size w1).alloc (Nat.le_refl _) (.cells #[.slice none 0 0, .int .i64 0, .int .i8 0] 111)); obtain ⟨z0, z1, z2, z3, z4, z5, z6, z7, z8, z9, y0, y1, y2, y3, y4, y5, y6, y7, y8, y9⟩ := ten (jP (o := (.cells #[.slice none 0 0, .int .i64 0, .int .i8 0] 111)) HBK.out); clear y0 y1 y2 y3 y4 y5 y6 y7 y8 y9) | (go_at_call 80; refine (nZ w1.heap.size w1.heap.size _ _ _ HI0.out HK0.out.1.size (by first | omega | (simp only [List.length_append, iU, List.length_nil, jA]; omega))).mono ?_; rintro e w2 ⟨rfl, hI, hK⟩; have HI1 := iE.mk hI; have HK1 := iE.mk (HK0.out.trans hK); clear hI hK z0 z1 z2 z3 z4 z5 z6 z7 z8 z9; obtain ⟨z0, z1, z2, z3, z4, z5, z6, z7, z8, z9, y0, y1, y2, y3, y4, y5, y6, y7, y8, y9⟩ := ten (iP HK1.out.1 HBK.out); clear y0 y1 y2 y3 y4 y5 y6 y7 y8 y9) | (go_at_call 81; refine (lI w1.heap.size w1.heap.size _ _ _ HI1.out HK1.out.1.size (by first | omega | (simp only [List.length_append, iU, List.length_nil, jA]; omega))).mono ?_; rintro e w3 ⟨rfl, hI, hK⟩; have HI2 := iE.mk hI; have HK2 := iE.mk (HK1.out.trans hK); clear hI hK z0 z1 z2 z3 z4 z5 z6 z7 z8 z9; obtain ⟨z0, z1, z2, z3, z4, z5, z6, z7, z8, z9, y0, y1, y2, y3, y4, y5, y6, y7, y8, y9⟩ := ten (iP HK2.out.1 HBK.out); clear y0 y1 y2 y3 y4 y5 y6 y7 y8 y9) | (go_at_call 68; refine (Tryd.Buffer_Len w1.heap.size w1.heap.size _ _ (HI2.out)).mono ?_; rintro e wl ⟨rfl, nl, rfl⟩; rw [Lib.byteCells_length, ← HLEN.out]))
    go_ret2
    exact ⟨_, rfl, Kd.R_nil _ _ _ _ _, by have hz := HBW.out; have hy := HK2.out.1; exact iF (iL hz hy) _⟩
  · rw [if_neg hbig]
    have hbigI : ¬ (60000 : Int) < (X.length : Int) := by omega
    clear hbig
    go_enter Tryd.func39, Tryd.ntmps39
    go_wp2_with (first | (go_at_call 41; refine (code_Sound.calls 3 a1 a2 A3 c3 l3 A4 c4 l4 a5 A6 c6 l6 a7 a8 A9 c9 l9 _ _ (Kd.C_below H3.out bel_) d3 (Kd.C_below H4.out bel_) d4 (Kd.C_below H6.out bel_) d6 (Kd.C_below H9.out bel_) d9 rfl).mono ?_; rintro e w1 ⟨rfl, hb1⟩; rw [HS.out]; have HBW := iE.mk (show Below w.heap.size w w1 from iL (iG (Below.refl _ _) _) hb1); have HBK := iE.mk (iP hb1 (jE rfl)); clear hb1; have HI0 := iE.mk (Bf.fresh w1); have HK0 := iE.mk ((Kp.refl w1.heap.size w1.heap.size w1).alloc (Nat.le_refl _) (.cells #[.slice none 0 0, .int .i64 0, .int .i8 0] 111)); obtain ⟨z0, z1, z2, z3, z4, z5, z6, z7, z8, z9, y0, y1, y2, y3, y4, y5, y6, y7, y8, y9⟩ := ten (jP (o := (.cells #[.slice none 0 0, .int .i64 0, .int .i8 0] 111)) HBK.out); clear y0 y1 y2 y3 y4 y5 y6 y7 y8 y9) | (go_at_call 80; refine (nZ w1.heap.size w1.heap.size _ _ _ HI0.out HK0.out.1.size (by first | omega | (simp only [List.length_append, iU, List.length_nil, jA]; omega))).mono ?_; rintro e w2 ⟨rfl, hI, hK⟩; have HI1 := iE.mk hI; have HK1 := iE.mk (HK0.out.trans hK); clear hI hK z0 z1 z2 z3 z4 z5 z6 z7 z8 z9; obtain ⟨z0, z1, z2, z3, z4, z5, z6, z7, z8, z9, y0, y1, y2, y3, y4, y5, y6, y7, y8, y9⟩ := ten (iP HK1.out.1 HBK.out); clear y0 y1 y2 y3 y4 y5 y6 y7 y8 y9) | (go_at_call 81; refine (lI w1.heap.size w1.heap.size _ _ _ HI1.out HK1.out.1.size (by first | omega | (simp only [List.length_append, iU, List.length_nil, jA]; omega))).mono ?_; rintro e w3 ⟨rfl, hI, hK⟩; have HI2 := iE.mk hI; have HK2 := iE.mk (HK1.out.trans hK); clear hI hK z0 z1 z2 z3 z4 z5 z6 z7 z8 z9; obtain ⟨z0, z1, z2, z3, z4, z5, z6, z7, z8, z9, y0, y1, y2, y3, y4, y5, y6, y7, y8, y9⟩ := ten (iP HK2.out.1 HBK.out); clear y0 y1 y2 y3 y4 y5 y6 y7 y8 y9) | (go_at_call 68; refine (Tryd.Buffer_Len w1.heap.size w1.heap.size _ _ (HI2.out)).mono ?_; rintro e wl ⟨rfl, nl, rfl⟩; rw [Lib.byteCells_length, ← HLEN.out]) | (go_at_call 73; refine (Tryd.Buffer_Bytes w1.heap.size w1.heap.size _ _ (HI2.out.drewN _)).mono ?_; rintro e wb ⟨v, rfl, hv, nb, rfl⟩; have HV := iE.mk hv; clear hv))
    go_ret2
    exact ⟨_, rfl, by rw [HX.out, UW]; exact oZ HV.out HBW.out.size, by have hz := HBW.out; have hy := HK2.out.1; exact iF (iL hz hy) _⟩
set_option maxHeartbeats 8000000 in
set_option maxRecDepth 20000 in
theorem QU (hs : jT ⟨4, a1, a2, l3, l4, ⟨a5, l6⟩, a7, a8, l9⟩ = true) : Calls Tryd.prog 39 #[.agg #[.int .u8 4, .int .u32 a1, .int .u32 a2, .slice A3 l3.length c3, .slice A4 l4.length c4, .int .u32 a5, .slice A6 l6.length c6, .int .i64 a7, .int .i64 a8, .slice A9 l9.length c9]] w (pI w (encR ⟨4, a1, a2, l3, l4, ⟨a5, l6⟩, a7, a8, l9⟩)) := by
  have H3 := iE.mk h3; have H4 := iE.mk h4; have H6 := iE.mk h6; have H9 := iE.mk h9
  clear h3 h4 h6 h9
  have HS := iE.mk hs
  unfold encR
  rw [if_pos HS.out]
  have hm3 := lK H3.out
  have hm6 := lK H6.out
  obtain ⟨X, hX⟩ : ∃ X : List UInt8, X = recE ⟨4, a1, a2, l3, l4, ⟨a5, l6⟩, a7, a8, l9⟩ := ⟨_, rfl⟩
  rw [← hX]
  have HX := iE.mk hX
  have HLEN := iE.mk (show X.length = _ from congrArg List.length (hX.trans (VA _ _ _ _ _ _ _ _ _)))
  clear hs hX
  by_cases hbig : 60000 < X.length
  · rw [if_pos hbig]
    have hbigI : (60000 : Int) < (X.length : Int) := by omega
    clear hbig
    go_enter Tryd.func39, Tryd.ntmps39
    go_wp2_with (first | (go_at_call 41; refine (code_Sound.calls 4 a1 a2 A3 c3 l3 A4 c4 l4 a5 A6 c6 l6 a7 a8 A9 c9 l9 _ _ (Kd.C_below H3.out bel_) d3 (Kd.C_below H4.out bel_) d4 (Kd.C_below H6.out bel_) d6 (Kd.C_below H9.out bel_) d9 rfl).mono ?_; rintro e w1 ⟨rfl, hb1⟩; rw [HS.out]; have HBW := iE.mk (show Below w.heap.size w w1 from iL (iG (Below.refl _ _) _) hb1); have HBK := iE.mk (iP hb1 (jE rfl)); clear hb1; have HI0 := iE.mk (Bf.fresh w1); have HK0 := iE.mk ((Kp.refl w1.heap.size w1.heap.size w1).alloc (Nat.le_refl _) (.cells #[.slice none 0 0, .int .i64 0, .int .i8 0] 111)); obtain ⟨z0, z1, z2, z3, z4, z5, z6, z7, z8, z9, y0, y1, y2, y3, y4, y5, y6, y7, y8, y9⟩ := ten (jP (o := (.cells #[.slice none 0 0, .int .i64 0, .int .i8 0] 111)) HBK.out); clear y0 y1 y2 y3 y4 y5 y6 y7 y8 y9) | (go_at_call 80; refine (nZ w1.heap.size w1.heap.size _ _ _ HI0.out HK0.out.1.size (by first | omega | (simp only [List.length_append, iU, List.length_nil, jA]; omega))).mono ?_; rintro e w2 ⟨rfl, hI, hK⟩; have HI1 := iE.mk hI; have HK1 := iE.mk (HK0.out.trans hK); clear hI hK z0 z1 z2 z3 z4 z5 z6 z7 z8 z9; obtain ⟨z0, z1, z2, z3, z4, z5, z6, z7, z8, z9, y0, y1, y2, y3, y4, y5, y6, y7, y8, y9⟩ := ten (iP HK1.out.1 HBK.out); clear y0 y1 y2 y3 y4 y5 y6 y7 y8 y9) | (go_at_call 81; refine (lI w1.heap.size w1.heap.size _ _ _ HI1.out HK1.out.1.size (by first | omega | (simp only [List.length_append, iU, List.length_nil, jA]; omega))).mono ?_; rintro e w3 ⟨rfl, hI, hK⟩; have HI2 := iE.mk hI; have HK2 := iE.mk (HK1.out.trans hK); clear hI hK z0 z1 z2 z3 z4 z5 z6 z7 z8 z9; obtain ⟨z0, z1, z2, z3, z4, z5, z6, z7, z8, z9, y0, y1, y2, y3, y4, y5, y6, y7, y8, y9⟩ := ten (iP HK2.out.1 HBK.out); clear y0 y1 y2 y3 y4 y5 y6 y7 y8 y9) | (go_at_call 68; refine (Tryd.Buffer_Len w1.heap.size w1.heap.size _ _ (HI2.out)).mono ?_; rintro e wl ⟨rfl, nl, rfl⟩; rw [Lib.byteCells_length, ← HLEN.out]))
    go_ret2
    exact ⟨_, rfl, Kd.R_nil _ _ _ _ _, by have hz := HBW.out; have hy := HK2.out.1; exact iF (iL hz hy) _⟩
  · rw [if_neg hbig]
    have hbigI : ¬ (60000 : Int) < (X.length : Int) := by omega
    clear hbig
    go_enter Tryd.func39, Tryd.ntmps39
    go_wp2_with (first | (go_at_call 41; refine (code_Sound.calls 4 a1 a2 A3 c3 l3 A4 c4 l4 a5 A6 c6 l6 a7 a8 A9 c9 l9 _ _ (Kd.C_below H3.out bel_) d3 (Kd.C_below H4.out bel_) d4 (Kd.C_below H6.out bel_) d6 (Kd.C_below H9.out bel_) d9 rfl).mono ?_; rintro e w1 ⟨rfl, hb1⟩; rw [HS.out]; have HBW := iE.mk (show Below w.heap.size w w1 from iL (iG (Below.refl _ _) _) hb1); have HBK := iE.mk (iP hb1 (jE rfl)); clear hb1; have HI0 := iE.mk (Bf.fresh w1); have HK0 := iE.mk ((Kp.refl w1.heap.size w1.heap.size w1).alloc (Nat.le_refl _) (.cells #[.slice none 0 0, .int .i64 0, .int .i8 0] 111)); obtain ⟨z0, z1, z2, z3, z4, z5, z6, z7, z8, z9, y0, y1, y2, y3, y4, y5, y6, y7, y8, y9⟩ := ten (jP (o := (.cells #[.slice none 0 0, .int .i64 0, .int .i8 0] 111)) HBK.out); clear y0 y1 y2 y3 y4 y5 y6 y7 y8 y9) | (go_at_call 80; refine (nZ w1.heap.size w1.heap.size _ _ _ HI0.out HK0.out.1.size (by first | omega | (simp only [List.length_append, iU, List.length_nil, jA]; omega))).mono ?_; rintro e w2 ⟨rfl, hI, hK⟩; have HI1 := iE.mk hI; have HK1 := iE.mk (HK0.out.trans hK); clear hI hK z0 z1 z2 z3 z4 z5 z6 z7 z8 z9; obtain ⟨z0, z1, z2, z3, z4, z5, z6, z7, z8, z9, y0, y1, y2, y3, y4, y5, y6, y7, y8, y9⟩ := ten (iP HK1.out.1 HBK.out); clear y0 y1 y2 y3 y4 y5 y6 y7 y8 y9) | (go_at_call 81; refine (lI w1.heap.size w1.heap.size _ _ _ HI1.out HK1.out.1.size (by first | omega | (simp only [List.length_append, iU, List.length_nil, jA]; omega))).mono ?_; rintro e w3 ⟨rfl, hI, hK⟩; have HI2 := iE.mk hI; have HK2 := iE.mk (HK1.out.trans hK); clear hI hK z0 z1 z2 z3 z4 z5 z6 z7 z8 z9; obtain ⟨z0, z1, z2, z3, z4, z5, z6, z7, z8, z9, y0, y1, y2, y3, y4, y5, y6, y7, y8, y9⟩ := ten (iP HK2.out.1 HBK.out); clear y0 y1 y2 y3 y4 y5 y6 y7 y8 y9) | (go_at_call 68; refine (Tryd.Buffer_Len w1.heap.size w1.heap.size _ _ (HI2.out)).mono ?_; rintro e wl ⟨rfl, nl, rfl⟩; rw [Lib.byteCells_length, ← HLEN.out]) | (go_at_call 73; refine (Tryd.Buffer_Bytes w1.heap.size w1.heap.size _ _ (HI2.out.drewN _)).mono ?_; rintro e wb ⟨v, rfl, hv, nb, rfl⟩; have HV := iE.mk hv; clear hv))
    go_ret2
    exact ⟨_, rfl, by rw [HX.out, VA]; exact oZ HV.out HBW.out.size, by have hz := HBW.out; have hy := HK2.out.1; exact iF (iL hz hy) _⟩
set_option maxHeartbeats 8000000 in
set_option maxRecDepth 20000 in
theorem RF (hs : jT ⟨5, a1, a2, l3, l4, ⟨a5, l6⟩, a7, a8, l9⟩ = true) : Calls Tryd.prog 39 #[.agg #[.int .u8 5, .int .u32 a1, .int .u32 a2, .slice A3 l3.length c3, .slice A4 l4.length c4, .int .u32 a5, .slice A6 l6.length c6, .int .i64 a7, .int .i64 a8, .slice A9 l9.length c9]] w (pI w (encR ⟨5, a1, a2, l3, l4, ⟨a5, l6⟩, a7, a8, l9⟩)) := by
  have H3 := iE.mk h3; have H4 := iE.mk h4; have H6 := iE.mk h6; have H9 := iE.mk h9
  clear h3 h4 h6 h9
  have HS := iE.mk hs
  unfold encR
  rw [if_pos HS.out]
  have hm3 := lK H3.out
  have hm6 := lK H6.out
  obtain ⟨X, hX⟩ : ∃ X : List UInt8, X = recE ⟨5, a1, a2, l3, l4, ⟨a5, l6⟩, a7, a8, l9⟩ := ⟨_, rfl⟩
  rw [← hX]
  have HX := iE.mk hX
  have HLEN := iE.mk (show X.length = _ from congrArg List.length (hX.trans (UY _ _ _ _ _ _ _ _ _)))
  clear hs hX
  by_cases hbig : 60000 < X.length
  · rw [if_pos hbig]
    have hbigI : (60000 : Int) < (X.length : Int) := by omega
    clear hbig
    go_enter Tryd.func39, Tryd.ntmps39
    go_wp2_with (first | (go_at_call 41; refine (code_Sound.calls 5 a1 a2 A3 c3 l3 A4 c4 l4 a5 A6 c6 l6 a7 a8 A9 c9 l9 _ _ (Kd.C_below H3.out bel_) d3 (Kd.C_below H4.out bel_) d4 (Kd.C_below H6.out bel_) d6 (Kd.C_below H9.out bel_) d9 rfl).mono ?_; rintro e w1 ⟨rfl, hb1⟩; rw [HS.out]; have HBW := iE.mk (show Below w.heap.size w w1 from iL (iG (Below.refl _ _) _) hb1); have HBK := iE.mk (iP hb1 (jE rfl)); clear hb1; have HI0 := iE.mk (Bf.fresh w1); have HK0 := iE.mk ((Kp.refl w1.heap.size w1.heap.size w1).alloc (Nat.le_refl _) (.cells #[.slice none 0 0, .int .i64 0, .int .i8 0] 111)); obtain ⟨z0, z1, z2, z3, z4, z5, z6, z7, z8, z9, y0, y1, y2, y3, y4, y5, y6, y7, y8, y9⟩ := ten (jP (o := (.cells #[.slice none 0 0, .int .i64 0, .int .i8 0] 111)) HBK.out); clear y0 y1 y2 y3 y4 y5 y6 y7 y8 y9) | (go_at_call 80; refine (nZ w1.heap.size w1.heap.size _ _ _ HI0.out HK0.out.1.size (by first | omega | (simp only [List.length_append, iU, List.length_nil, jA]; omega))).mono ?_; rintro e w2 ⟨rfl, hI, hK⟩; have HI1 := iE.mk hI; have HK1 := iE.mk (HK0.out.trans hK); clear hI hK z0 z1 z2 z3 z4 z5 z6 z7 z8 z9; obtain ⟨z0, z1, z2, z3, z4, z5, z6, z7, z8, z9, y0, y1, y2, y3, y4, y5, y6, y7, y8, y9⟩ := ten (iP HK1.out.1 HBK.out); clear y0 y1 y2 y3 y4 y5 y6 y7 y8 y9) | (go_at_call 81; refine (lI w1.heap.size w1.heap.size _ _ _ HI1.out HK1.out.1.size (by first | omega | (simp only [List.length_append, iU, List.length_nil, jA]; omega))).mono ?_; rintro e w3 ⟨rfl, hI, hK⟩; have HI2 := iE.mk hI; have HK2 := iE.mk (HK1.out.trans hK); clear hI hK z0 z1 z2 z3 z4 z5 z6 z7 z8 z9; obtain ⟨z0, z1, z2, z3, z4, z5, z6, z7, z8, z9, y0, y1, y2, y3, y4, y5, y6, y7, y8, y9⟩ := ten (iP HK2.out.1 HBK.out); clear y0 y1 y2 y3 y4 y5 y6 y7 y8 y9) | (go_at_call 68; refine (Tryd.Buffer_Len w1.heap.size w1.heap.size _ _ (HI2.out)).mono ?_; rintro e wl ⟨rfl, nl, rfl⟩; rw [Lib.byteCells_length, ← HLEN.out]))
    go_ret2
    exact ⟨_, rfl, Kd.R_nil _ _ _ _ _, by have hz := HBW.out; have hy := HK2.out.1; exact iF (iL hz hy) _⟩
  · rw [if_neg hbig]
    have hbigI : ¬ (60000 : Int) < (X.length : Int) := by omega
    clear hbig
    go_enter Tryd.func39, Tryd.ntmps39
    go_wp2_with (first | (go_at_call 41; refine (code_Sound.calls 5 a1 a2 A3 c3 l3 A4 c4 l4 a5 A6 c6 l6 a7 a8 A9 c9 l9 _ _ (Kd.C_below H3.out bel_) d3 (Kd.C_below H4.out bel_) d4 (Kd.C_below H6.out bel_) d6 (Kd.C_below H9.out bel_) d9 rfl).mono ?_; rintro e w1 ⟨rfl, hb1⟩; rw [HS.out]; have HBW := iE.mk (show Below w.heap.size w w1 from iL (iG (Below.refl _ _) _) hb1); have HBK := iE.mk (iP hb1 (jE rfl)); clear hb1; have HI0 := iE.mk (Bf.fresh w1); have HK0 := iE.mk ((Kp.refl w1.heap.size w1.heap.size w1).alloc (Nat.le_refl _) (.cells #[.slice none 0 0, .int .i64 0, .int .i8 0] 111)); obtain ⟨z0, z1, z2, z3, z4, z5, z6, z7, z8, z9, y0, y1, y2, y3, y4, y5, y6, y7, y8, y9⟩ := ten (jP (o := (.cells #[.slice none 0 0, .int .i64 0, .int .i8 0] 111)) HBK.out); clear y0 y1 y2 y3 y4 y5 y6 y7 y8 y9) | (go_at_call 80; refine (nZ w1.heap.size w1.heap.size _ _ _ HI0.out HK0.out.1.size (by first | omega | (simp only [List.length_append, iU, List.length_nil, jA]; omega))).mono ?_; rintro e w2 ⟨rfl, hI, hK⟩; have HI1 := iE.mk hI; have HK1 := iE.mk (HK0.out.trans hK); clear hI hK z0 z1 z2 z3 z4 z5 z6 z7 z8 z9; obtain ⟨z0, z1, z2, z3, z4, z5, z6, z7, z8, z9, y0, y1, y2, y3, y4, y5, y6, y7, y8, y9⟩ := ten (iP HK1.out.1 HBK.out); clear y0 y1 y2 y3 y4 y5 y6 y7 y8 y9) | (go_at_call 81; refine (lI w1.heap.size w1.heap.size _ _ _ HI1.out HK1.out.1.size (by first | omega | (simp only [List.length_append, iU, List.length_nil, jA]; omega))).mono ?_; rintro e w3 ⟨rfl, hI, hK⟩; have HI2 := iE.mk hI; have HK2 := iE.mk (HK1.out.trans hK); clear hI hK z0 z1 z2 z3 z4 z5 z6 z7 z8 z9; obtain ⟨z0, z1, z2, z3, z4, z5, z6, z7, z8, z9, y0, y1, y2, y3, y4, y5, y6, y7, y8, y9⟩ := ten (iP HK2.out.1 HBK.out); clear y0 y1 y2 y3 y4 y5 y6 y7 y8 y9) | (go_at_call 68; refine (Tryd.Buffer_Len w1.heap.size w1.heap.size _ _ (HI2.out)).mono ?_; rintro e wl ⟨rfl, nl, rfl⟩; rw [Lib.byteCells_length, ← HLEN.out]) | (go_at_call 73; refine (Tryd.Buffer_Bytes w1.heap.size w1.heap.size _ _ (HI2.out.drewN _)).mono ?_; rintro e wb ⟨v, rfl, hv, nb, rfl⟩; have HV := iE.mk hv; clear hv))
    go_ret2
    exact ⟨_, rfl, by rw [HX.out, UY]; exact oZ HV.out HBW.out.size, by have hz := HBW.out; have hy := HK2.out.1; exact iF (iL hz hy) _⟩
set_option maxHeartbeats 8000000 in
set_option maxRecDepth 20000 in
theorem QI (hs : jT ⟨7, a1, a2, l3, l4, ⟨a5, l6⟩, a7, a8, l9⟩ = true) : Calls Tryd.prog 39 #[.agg #[.int .u8 7, .int .u32 a1, .int .u32 a2, .slice A3 l3.length c3, .slice A4 l4.length c4, .int .u32 a5, .slice A6 l6.length c6, .int .i64 a7, .int .i64 a8, .slice A9 l9.length c9]] w (pI w (encR ⟨7, a1, a2, l3, l4, ⟨a5, l6⟩, a7, a8, l9⟩)) := by
  have H3 := iE.mk h3; have H4 := iE.mk h4; have H6 := iE.mk h6; have H9 := iE.mk h9
  clear h3 h4 h6 h9
  have HS := iE.mk hs
  have q9 : (jR l9).length ≤ 25040004 := by
    have h := HS.out
    rw [TJ, Bool.and_eq_true, Bool.and_eq_true, Bool.and_eq_true, Bool.and_eq_true, Bool.and_eq_true, Bool.and_eq_true] at h
    exact xC _ h.1.1.1.1.1.1 (by have := of_decide_eq_true h.1.1.1.1.1.2; omega)
  unfold encR
  rw [if_pos HS.out]
  have hm3 := lK H3.out
  have hm6 := lK H6.out
  obtain ⟨X, hX⟩ : ∃ X : List UInt8, X = recE ⟨7, a1, a2, l3, l4, ⟨a5, l6⟩, a7, a8, l9⟩ := ⟨_, rfl⟩
  rw [← hX]
  have HX := iE.mk hX
  have HLEN := iE.mk (show X.length = _ from congrArg List.length (hX.trans (V4 _ _ _ _ _ _ _ _ _)))
  clear hs hX
  by_cases hbig : 60000 < X.length
  · rw [if_pos hbig]
    have hbigI : (60000 : Int) < (X.length : Int) := by omega
    clear hbig
    go_enter Tryd.func39, Tryd.ntmps39
    go_wp2_with (first | (go_at_call 41; refine (code_Sound.calls 7 a1 a2 A3 c3 l3 A4 c4 l4 a5 A6 c6 l6 a7 a8 A9 c9 l9 _ _ (Kd.C_below H3.out bel_) d3 (Kd.C_below H4.out bel_) d4 (Kd.C_below H6.out bel_) d6 (Kd.C_below H9.out bel_) d9 rfl).mono ?_; rintro e w1 ⟨rfl, hb1⟩; rw [HS.out]; have HBW := iE.mk (show Below w.heap.size w w1 from iL (iG (Below.refl _ _) _) hb1); have HBK := iE.mk (iP hb1 (jE rfl)); clear hb1; have HI0 := iE.mk (Bf.fresh w1); have HK0 := iE.mk ((Kp.refl w1.heap.size w1.heap.size w1).alloc (Nat.le_refl _) (.cells #[.slice none 0 0, .int .i64 0, .int .i8 0] 111)); obtain ⟨z0, z1, z2, z3, z4, z5, z6, z7, z8, z9, y0, y1, y2, y3, y4, y5, y6, y7, y8, y9⟩ := ten (jP (o := (.cells #[.slice none 0 0, .int .i64 0, .int .i8 0] 111)) HBK.out); clear y0 y1 y2 y3 y4 y5 y6 y7 y8 y9) | (go_at_call 80; refine (nZ w1.heap.size w1.heap.size _ _ _ HI0.out HK0.out.1.size (by first | omega | (simp only [List.length_append, iU, List.length_nil, jA]; omega))).mono ?_; rintro e w2 ⟨rfl, hI, hK⟩; have HI1 := iE.mk hI; have HK1 := iE.mk (HK0.out.trans hK); clear hI hK z0 z1 z2 z3 z4 z5 z6 z7 z8 z9; obtain ⟨z0, z1, z2, z3, z4, z5, z6, z7, z8, z9, y0, y1, y2, y3, y4, y5, y6, y7, y8, y9⟩ := ten (iP HK1.out.1 HBK.out); clear y0 y1 y2 y3 y4 y5 y6 y7 y8 y9) | (go_at_call 81; refine (lI w1.heap.size w1.heap.size _ _ _ HI1.out HK1.out.1.size (by first | omega | (simp only [List.length_append, iU, List.length_nil, jA]; omega))).mono ?_; rintro e w3 ⟨rfl, hI, hK⟩; have HI2 := iE.mk hI; have HK2 := iE.mk (HK1.out.trans hK); clear hI hK z0 z1 z2 z3 z4 z5 z6 z7 z8 z9; obtain ⟨z0, z1, z2, z3, z4, z5, z6, z7, z8, z9, y0, y1, y2, y3, y4, y5, y6, y7, y8, y9⟩ := ten (iP HK2.out.1 HBK.out); clear y0 y1 y2 y3 y4 y5 y6 y7 y8 y9) | (go_at_call 84; refine (nN w1.heap.size w1.heap.size _ _ _ HI2.out HK2.out.1.size (by first | omega | (simp only [List.length_append, iU, List.length_nil, jA]; omega))).mono ?_; rintro e w4 ⟨rfl, hI, hK⟩; have HI3 := iE.mk hI; have HK3 := iE.mk (HK2.out.trans hK); clear hI hK z0 z1 z2 z3 z4 z5 z6 z7 z8 z9; obtain ⟨z0, z1, z2, z3, z4, z5, z6, z7, z8, z9, y0, y1, y2, y3, y4, y5, y6, y7, y8, y9⟩ := ten (iP HK3.out.1 HBK.out); clear y0 y1 y2 y3 y4 y5 y6 y7 y8 y9) | (go_at_call 84; refine (nN w1.heap.size w1.heap.size _ _ _ HI3.out HK3.out.1.size (by first | omega | (simp only [List.length_append, iU, List.length_nil, jA]; omega))).mono ?_; rintro e w5 ⟨rfl, hI, hK⟩; have HI4 := iE.mk hI; have HK4 := iE.mk (HK3.out.trans hK); clear hI hK z0 z1 z2 z3 z4 z5 z6 z7 z8 z9; obtain ⟨z0, z1, z2, z3, z4, z5, z6, z7, z8, z9, y0, y1, y2, y3, y4, y5, y6, y7, y8, y9⟩ := ten (iP HK4.out.1 HBK.out); clear y0 y1 y2 y3 y4 y5 y6 y7 y8 y9) | (go_at_call 85; refine (vJ w1.heap.size _ _ _ l9 w1 _ HI4.out HK4.out.1 (Kd.C_below H9.out HBW.out) (by first | omega | (simp only [List.length_append, iU, List.length_nil, jA]; omega))).mono ?_; rintro e w6 ⟨rfl, hI, hK⟩; have HI5 := iE.mk hI; have HK5 := iE.mk (HK4.out.trans hK); clear hI hK z0 z1 z2 z3 z4 z5 z6 z7 z8 z9; obtain ⟨z0, z1, z2, z3, z4, z5, z6, z7, z8, z9, y0, y1, y2, y3, y4, y5, y6, y7, y8, y9⟩ := ten (iP HK5.out.1 HBK.out); clear y0 y1 y2 y3 y4 y5 y6 y7 y8 y9) | (go_at_call 68; refine (Tryd.Buffer_Len w1.heap.size w1.heap.size _ _ (HI5.out)).mono ?_; rintro e wl ⟨rfl, nl, rfl⟩; rw [Lib.byteCells_length, ← HLEN.out]))
    go_ret2
    exact ⟨_, rfl, Kd.R_nil _ _ _ _ _, by have hz := HBW.out; have hy := HK5.out.1; exact iF (iL hz hy) _⟩
  · rw [if_neg hbig]
    have hbigI : ¬ (60000 : Int) < (X.length : Int) := by omega
    clear hbig
    go_enter Tryd.func39, Tryd.ntmps39
    go_wp2_with (first | (go_at_call 41; refine (code_Sound.calls 7 a1 a2 A3 c3 l3 A4 c4 l4 a5 A6 c6 l6 a7 a8 A9 c9 l9 _ _ (Kd.C_below H3.out bel_) d3 (Kd.C_below H4.out bel_) d4 (Kd.C_below H6.out bel_) d6 (Kd.C_below H9.out bel_) d9 rfl).mono ?_; rintro e w1 ⟨rfl, hb1⟩; rw [HS.out]; have HBW := iE.mk (show Below w.heap.size w w1 from iL (iG (Below.refl _ _) _) hb1); have HBK := iE.mk (iP hb1 (jE rfl)); clear hb1; have HI0 := iE.mk (Bf.fresh w1); have HK0 := iE.mk ((Kp.refl w1.heap.size w1.heap.size w1).alloc (Nat.le_refl _) (.cells #[.slice none 0 0, .int .i64 0, .int .i8 0] 111)); obtain ⟨z0, z1, z2, z3, z4, z5, z6, z7, z8, z9, y0, y1, y2, y3, y4, y5, y6, y7, y8, y9⟩ := ten (jP (o := (.cells #[.slice none 0 0, .int .i64 0, .int .i8 0] 111)) HBK.out); clear y0 y1 y2 y3 y4 y5 y6 y7 y8 y9) | (go_at_call 80; refine (nZ w1.heap.size w1.heap.size _ _ _ HI0.out HK0.out.1.size (by first | omega | (simp only [List.length_append, iU, List.length_nil, jA]; omega))).mono ?_; rintro e w2 ⟨rfl, hI, hK⟩; have HI1 := iE.mk hI; have HK1 := iE.mk (HK0.out.trans hK); clear hI hK z0 z1 z2 z3 z4 z5 z6 z7 z8 z9; obtain ⟨z0, z1, z2, z3, z4, z5, z6, z7, z8, z9, y0, y1, y2, y3, y4, y5, y6, y7, y8, y9⟩ := ten (iP HK1.out.1 HBK.out); clear y0 y1 y2 y3 y4 y5 y6 y7 y8 y9) | (go_at_call 81; refine (lI w1.heap.size w1.heap.size _ _ _ HI1.out HK1.out.1.size (by first | omega | (simp only [List.length_append, iU, List.length_nil, jA]; omega))).mono ?_; rintro e w3 ⟨rfl, hI, hK⟩; have HI2 := iE.mk hI; have HK2 := iE.mk (HK1.out.trans hK); clear hI hK z0 z1 z2 z3 z4 z5 z6 z7 z8 z9; obtain ⟨z0, z1, z2, z3, z4, z5, z6, z7, z8, z9, y0, y1, y2, y3, y4, y5, y6, y7, y8, y9⟩ := ten (iP HK2.out.1 HBK.out); clear y0 y1 y2 y3 y4 y5 y6 y7 y8 y9) | (go_at_call 84; refine (nN w1.heap.size w1.heap.size _ _ _ HI2.out HK2.out.1.size (by first | omega | (simp only [List.length_append, iU, List.length_nil, jA]; omega))).mono ?_; rintro e w4 ⟨rfl, hI, hK⟩; have HI3 := iE.mk hI; have HK3 := iE.mk (HK2.out.trans hK); clear hI hK z0 z1 z2 z3 z4 z5 z6 z7 z8 z9; obtain ⟨z0, z1, z2, z3, z4, z5, z6, z7, z8, z9, y0, y1, y2, y3, y4, y5, y6, y7, y8, y9⟩ := ten (iP HK3.out.1 HBK.out); clear y0 y1 y2 y3 y4 y5 y6 y7 y8 y9) | (go_at_call 84; refine (nN w1.heap.size w1.heap.size _ _ _ HI3.out HK3.out.1.size (by first | omega | (simp only [List.length_append, iU, List.length_nil, jA]; omega))).mono ?_; rintro e w5 ⟨rfl, hI, hK⟩; have HI4 := iE.mk hI; have HK4 := iE.mk (HK3.out.trans hK); clear hI hK z0 z1 z2 z3 z4 z5 z6 z7 z8 z9; obtain ⟨z0, z1, z2, z3, z4, z5, z6, z7, z8, z9, y0, y1, y2, y3, y4, y5, y6, y7, y8, y9⟩ := ten (iP HK4.out.1 HBK.out); clear y0 y1 y2 y3 y4 y5 y6 y7 y8 y9) | (go_at_call 85; refine (vJ w1.heap.size _ _ _ l9 w1 _ HI4.out HK4.out.1 (Kd.C_below H9.out HBW.out) (by first | omega | (simp only [List.length_append, iU, List.length_nil, jA]; omega))).mono ?_; rintro e w6 ⟨rfl, hI, hK⟩; have HI5 := iE.mk hI; have HK5 := iE.mk (HK4.out.trans hK); clear hI hK z0 z1 z2 z3 z4 z5 z6 z7 z8 z9; obtain ⟨z0, z1, z2, z3, z4, z5, z6, z7, z8, z9, y0, y1, y2, y3, y4, y5, y6, y7, y8, y9⟩ := ten (iP HK5.out.1 HBK.out); clear y0 y1 y2 y3 y4 y5 y6 y7 y8 y9) | (go_at_call 68; refine (Tryd.Buffer_Len w1.heap.size w1.heap.size _ _ (HI5.out)).mono ?_; rintro e wl ⟨rfl, nl, rfl⟩; rw [Lib.byteCells_length, ← HLEN.out]) | (go_at_call 73; refine (Tryd.Buffer_Bytes w1.heap.size w1.heap.size _ _ (HI5.out.drewN _)).mono ?_; rintro e wb ⟨v, rfl, hv, nb, rfl⟩; have HV := iE.mk hv; clear hv))
    go_ret2
    exact ⟨_, rfl, by rw [HX.out, V4]; exact oZ HV.out HBW.out.size, by have hz := HBW.out; have hy := HK5.out.1; exact iF (iL hz hy) _⟩
set_option maxHeartbeats 8000000 in
set_option maxRecDepth 20000 in
theorem QB (hs : jT ⟨6, a1, a2, l3, l4, ⟨a5, l6⟩, a7, a8, l9⟩ = true) : Calls Tryd.prog 39 #[.agg #[.int .u8 6, .int .u32 a1, .int .u32 a2, .slice A3 l3.length c3, .slice A4 l4.length c4, .int .u32 a5, .slice A6 l6.length c6, .int .i64 a7, .int .i64 a8, .slice A9 l9.length c9]] w (pI w (encR ⟨6, a1, a2, l3, l4, ⟨a5, l6⟩, a7, a8, l9⟩)) := by
  have H3 := iE.mk h3; have H4 := iE.mk h4; have H6 := iE.mk h6; have H9 := iE.mk h9
  clear h3 h4 h6 h9
  have HS := iE.mk hs
  have q6 : l6.length ≤ 40 := by
    have h := HS.out
    rw [TQ, Bool.and_eq_true, Bool.and_eq_true, Bool.and_eq_true] at h
    have := of_decide_eq_true h.1.1.2
    omega
  unfold encR
  rw [if_pos HS.out]
  have hm3 := lK H3.out
  have hm6 := lK H6.out
  obtain ⟨X, hX⟩ : ∃ X : List UInt8, X = recE ⟨6, a1, a2, l3, l4, ⟨a5, l6⟩, a7, a8, l9⟩ := ⟨_, rfl⟩
  rw [← hX]
  have HX := iE.mk hX
  have HLEN := iE.mk (show X.length = _ from congrArg List.length (hX.trans (VD _ _ _ _ _ _ _ _ _)))
  clear hs hX
  by_cases hbig : 60000 < X.length
  · rw [if_pos hbig]
    have hbigI : (60000 : Int) < (X.length : Int) := by omega
    clear hbig
    go_enter Tryd.func39, Tryd.ntmps39
    go_wp2_with (first | (go_at_call 41; refine (code_Sound.calls 6 a1 a2 A3 c3 l3 A4 c4 l4 a5 A6 c6 l6 a7 a8 A9 c9 l9 _ _ (Kd.C_below H3.out bel_) d3 (Kd.C_below H4.out bel_) d4 (Kd.C_below H6.out bel_) d6 (Kd.C_below H9.out bel_) d9 rfl).mono ?_; rintro e w1 ⟨rfl, hb1⟩; rw [HS.out]; have HBW := iE.mk (show Below w.heap.size w w1 from iL (iG (Below.refl _ _) _) hb1); have HBK := iE.mk (iP hb1 (jE rfl)); clear hb1; have HI0 := iE.mk (Bf.fresh w1); have HK0 := iE.mk ((Kp.refl w1.heap.size w1.heap.size w1).alloc (Nat.le_refl _) (.cells #[.slice none 0 0, .int .i64 0, .int .i8 0] 111)); obtain ⟨z0, z1, z2, z3, z4, z5, z6, z7, z8, z9, y0, y1, y2, y3, y4, y5, y6, y7, y8, y9⟩ := ten (jP (o := (.cells #[.slice none 0 0, .int .i64 0, .int .i8 0] 111)) HBK.out); clear y0 y1 y2 y3 y4 y5 y6 y7 y8 y9) | (go_at_call 80; refine (nZ w1.heap.size w1.heap.size _ _ _ HI0.out HK0.out.1.size (by first | omega | (simp only [List.length_append, iU, List.length_nil, jA]; omega))).mono ?_; rintro e w2 ⟨rfl, hI, hK⟩; have HI1 := iE.mk hI; have HK1 := iE.mk (HK0.out.trans hK); clear hI hK z0 z1 z2 z3 z4 z5 z6 z7 z8 z9; obtain ⟨z0, z1, z2, z3, z4, z5, z6, z7, z8, z9, y0, y1, y2, y3, y4, y5, y6, y7, y8, y9⟩ := ten (iP HK1.out.1 HBK.out); clear y0 y1 y2 y3 y4 y5 y6 y7 y8 y9) | (go_at_call 81; refine (lI w1.heap.size w1.heap.size _ _ _ HI1.out HK1.out.1.size (by first | omega | (simp only [List.length_append, iU, List.length_nil, jA]; omega))).mono ?_; rintro e w3 ⟨rfl, hI, hK⟩; have HI2 := iE.mk hI; have HK2 := iE.mk (HK1.out.trans hK); clear hI hK z0 z1 z2 z3 z4 z5 z6 z7 z8 z9; obtain ⟨z0, z1, z2, z3, z4, z5, z6, z7, z8, z9, y0, y1, y2, y3, y4, y5, y6, y7, y8, y9⟩ := ten (iP HK2.out.1 HBK.out); clear y0 y1 y2 y3 y4 y5 y6 y7 y8 y9) | (go_at_call 81; refine (lI w1.heap.size w1.heap.size _ _ _ HI2.out HK2.out.1.size (by first | omega | (simp only [List.length_append, iU, List.length_nil, jA]; omega))).mono ?_; rintro e w4 ⟨rfl, hI, hK⟩; have HI3 := iE.mk hI; have HK3 := iE.mk (HK2.out.trans hK); clear hI hK z0 z1 z2 z3 z4 z5 z6 z7 z8 z9; obtain ⟨z0, z1, z2, z3, z4, z5, z6, z7, z8, z9, y0, y1, y2, y3, y4, y5, y6, y7, y8, y9⟩ := ten (iP HK3.out.1 HBK.out); clear y0 y1 y2 y3 y4 y5 y6 y7 y8 y9) | (go_at_call 84; refine (oW w1.heap.size w1.heap.size _ _ _ HI3.out HK3.out.1.size (by first | omega | (simp only [List.length_append, iU, List.length_nil, jA]; omega))).mono ?_; rintro e w5 ⟨rfl, hI, hK⟩; have HI4 := iE.mk hI; have HK4 := iE.mk (HK3.out.trans hK); clear hI hK z0 z1 z2 z3 z4 z5 z6 z7 z8 z9; obtain ⟨z0, z1, z2, z3, z4, z5, z6, z7, z8, z9, y0, y1, y2, y3, y4, y5, y6, y7, y8, y9⟩ := ten (iP HK4.out.1 HBK.out); clear y0 y1 y2 y3 y4 y5 y6 y7 y8 y9))
    clear z0 z1 z2 z3 z4 z5 z6 z7 z8 z9
    go_loopw [59] (fun i wr => ∃ k : Nat, k ≤ l6.length ∧ i = .int .i64 k ∧ iE (Bf w1.heap.size w1.heap.size ([] ++ layB 6 1 ++ layB a1 4 ++ layB a5 4 ++ layB l6.length 1 ++ (l6.take k).flatMap nY) wr) ∧ iE (Kp w1.heap.size w1.heap.size w1 wr)) (fun i _ => l6.length - (intOf i).toNat)
    case atStart => exact ⟨0, Nat.zero_le _, rfl, ⟨by rw [List.take_zero, List.flatMap_nil, List.append_nil]; exact HI4.out⟩, HK4⟩
    case round =>
      obtain ⟨k, hk, rfl, HI, HK⟩ := hrel
      clear HI4 HK4 HI3 HK3 HI2 HK2 HI1 HK1 HI0 HK0
      by_cases hlt : k < l6.length
      · obtain ⟨ad, rfl, hx0, hx1⟩ := kY (Kd.C_below H6.out (iL HBW.out HK.out.1)) (k : Int) (by omega) (by omega)
        rw [O9] at hx0 hx1
        rw [Int.toNat_natCast] at hx0 hx1
        have hts := iE.mk (kT nY xB l6 k hlt)
        have hpl : ([] ++ layB 6 1 ++ layB a1 4 ++ layB a5 4 ++ layB l6.length 1 ++ (l6.take k).flatMap nY).length + 10 ≤ 140737488355328 := by
          simp only [List.length_append, iU, List.length_nil, yX, List.length_take]
          omega
        obtain ⟨s, hs⟩ : ∃ s, s = l6.getD k xB := ⟨_, rfl⟩
        rw [← hs] at hx0 hx1 hts
        clear hs
        obtain ⟨pre, hpre⟩ : ∃ p, p = [] ++ layB 6 1 ++ layB a1 4 ++ layB a5 4 ++ layB l6.length 1 ++ (l6.take k).flatMap nY := ⟨_, rfl⟩
        have hrest : [] ++ layB 6 1 ++ layB a1 4 ++ layB a5 4 ++ layB l6.length 1 ++ (l6.take (k + 1)).flatMap nY = pre ++ nY s := by rw [hts.out, ← List.append_assoc, hpre]
        have HREST := iE.mk hrest
        rw [← hpre] at HI hpl
        have HPL := iE.mk (show (pre ++ layB s.f0 4).length + 1 ≤ 140737488355328 from by rw [List.length_append, iU]; omega)
        have HPL4 := iE.mk (show pre.length + 4 ≤ 140737488355328 from by omega)
        clear hpre hrest hts hpl
        obtain ⟨wo, rfl⟩ : ∃ wo : World, wo = wr := ⟨_, rfl⟩
        have HBX := iE.mk (Bf.alloc HI.out (.cells #[.int .i64 s.f0, .int .i64 s.f1] 132))
        have HKX := iE.mk (HK.out.alloc HK.out.1.size (.cells #[.int .i64 s.f0, .int .i64 s.f1] 132))
        have HNE := iE.mk (show wo.heap.size ≠ w1.heap.size from by have := HI.out.lt; omega)
        go_wp2_with fail
        refine (nN _ _ pre _ _ HBX.out HKX.out.1.size HPL4.out).mono ?_
        rintro e w2 ⟨rfl, hI, hK⟩
        have HI1 := iE.mk hI
        have HK1 := iE.mk (HKX.out.trans hK)
        have hblk := hK.block (jE rfl) HNE.out (by decide)
        clear hI hK
        have hz1 : w2.cell? ⟨wo.heap.size, 1, none⟩ = some (.int .i64 s.f1) := (iD hblk 1).trans rfl
        clear hblk
        go_wp2_with fail
        refine (oW _ _ _ _ _ HI1.out HK1.out.1.size HPL.out).mono ?_
        rintro e w3 ⟨rfl, hI, hK⟩
        have HI2 := iE.mk hI
        have HK2 := iE.mk (HK1.out.trans hK)
        clear hI hK
        go_wp2
        go_roundw
        case rel => exact ⟨k + 1, by omega, by go_num, ⟨by rw [HREST.out, nY, ← List.append_assoc]; exact HI2.out⟩, HK2⟩
        case measure => simp [intOf]; omega
      · skip
        obtain rfl : k = l6.length := by omega
        have hI' := HI.out
        rw [List.take_length] at hI'
        have HI' := iE.mk hI'
        clear hI'
        go_wp2_with (first | (go_at_call 68; refine (Tryd.Buffer_Len w1.heap.size w1.heap.size _ _ (HI'.out)).mono ?_; rintro e wl ⟨rfl, nl, rfl⟩; rw [Lib.byteCells_length, ← HLEN.out]))
        go_ret2
        exact ⟨_, rfl, Kd.R_nil _ _ _ _ _, by have hz := HBW.out; have hy := HK.out.1; exact iF (iL hz hy) _⟩
  · rw [if_neg hbig]
    have hbigI : ¬ (60000 : Int) < (X.length : Int) := by omega
    clear hbig
    go_enter Tryd.func39, Tryd.ntmps39
    go_wp2_with (first | (go_at_call 41; refine (code_Sound.calls 6 a1 a2 A3 c3 l3 A4 c4 l4 a5 A6 c6 l6 a7 a8 A9 c9 l9 _ _ (Kd.C_below H3.out bel_) d3 (Kd.C_below H4.out bel_) d4 (Kd.C_below H6.out bel_) d6 (Kd.C_below H9.out bel_) d9 rfl).mono ?_; rintro e w1 ⟨rfl, hb1⟩; rw [HS.out]; have HBW := iE.mk (show Below w.heap.size w w1 from iL (iG (Below.refl _ _) _) hb1); have HBK := iE.mk (iP hb1 (jE rfl)); clear hb1; have HI0 := iE.mk (Bf.fresh w1); have HK0 := iE.mk ((Kp.refl w1.heap.size w1.heap.size w1).alloc (Nat.le_refl _) (.cells #[.slice none 0 0, .int .i64 0, .int .i8 0] 111)); obtain ⟨z0, z1, z2, z3, z4, z5, z6, z7, z8, z9, y0, y1, y2, y3, y4, y5, y6, y7, y8, y9⟩ := ten (jP (o := (.cells #[.slice none 0 0, .int .i64 0, .int .i8 0] 111)) HBK.out); clear y0 y1 y2 y3 y4 y5 y6 y7 y8 y9) | (go_at_call 80; refine (nZ w1.heap.size w1.heap.size _ _ _ HI0.out HK0.out.1.size (by first | omega | (simp only [List.length_append, iU, List.length_nil, jA]; omega))).mono ?_; rintro e w2 ⟨rfl, hI, hK⟩; have HI1 := iE.mk hI; have HK1 := iE.mk (HK0.out.trans hK); clear hI hK z0 z1 z2 z3 z4 z5 z6 z7 z8 z9; obtain ⟨z0, z1, z2, z3, z4, z5, z6, z7, z8, z9, y0, y1, y2, y3, y4, y5, y6, y7, y8, y9⟩ := ten (iP HK1.out.1 HBK.out); clear y0 y1 y2 y3 y4 y5 y6 y7 y8 y9) | (go_at_call 81; refine (lI w1.heap.size w1.heap.size _ _ _ HI1.out HK1.out.1.size (by first | omega | (simp only [List.length_append, iU, List.length_nil, jA]; omega))).mono ?_; rintro e w3 ⟨rfl, hI, hK⟩; have HI2 := iE.mk hI; have HK2 := iE.mk (HK1.out.trans hK); clear hI hK z0 z1 z2 z3 z4 z5 z6 z7 z8 z9; obtain ⟨z0, z1, z2, z3, z4, z5, z6, z7, z8, z9, y0, y1, y2, y3, y4, y5, y6, y7, y8, y9⟩ := ten (iP HK2.out.1 HBK.out); clear y0 y1 y2 y3 y4 y5 y6 y7 y8 y9) | (go_at_call 81; refine (lI w1.heap.size w1.heap.size _ _ _ HI2.out HK2.out.1.size (by first | omega | (simp only [List.length_append, iU, List.length_nil, jA]; omega))).mono ?_; rintro e w4 ⟨rfl, hI, hK⟩; have HI3 := iE.mk hI; have HK3 := iE.mk (HK2.out.trans hK); clear hI hK z0 z1 z2 z3 z4 z5 z6 z7 z8 z9; obtain ⟨z0, z1, z2, z3, z4, z5, z6, z7, z8, z9, y0, y1, y2, y3, y4, y5, y6, y7, y8, y9⟩ := ten (iP HK3.out.1 HBK.out); clear y0 y1 y2 y3 y4 y5 y6 y7 y8 y9) | (go_at_call 84; refine (oW w1.heap.size w1.heap.size _ _ _ HI3.out HK3.out.1.size (by first | omega | (simp only [List.length_append, iU, List.length_nil, jA]; omega))).mono ?_; rintro e w5 ⟨rfl, hI, hK⟩; have HI4 := iE.mk hI; have HK4 := iE.mk (HK3.out.trans hK); clear hI hK z0 z1 z2 z3 z4 z5 z6 z7 z8 z9; obtain ⟨z0, z1, z2, z3, z4, z5, z6, z7, z8, z9, y0, y1, y2, y3, y4, y5, y6, y7, y8, y9⟩ := ten (iP HK4.out.1 HBK.out); clear y0 y1 y2 y3 y4 y5 y6 y7 y8 y9))
    clear z0 z1 z2 z3 z4 z5 z6 z7 z8 z9
    go_loopw [59] (fun i wr => ∃ k : Nat, k ≤ l6.length ∧ i = .int .i64 k ∧ iE (Bf w1.heap.size w1.heap.size ([] ++ layB 6 1 ++ layB a1 4 ++ layB a5 4 ++ layB l6.length 1 ++ (l6.take k).flatMap nY) wr) ∧ iE (Kp w1.heap.size w1.heap.size w1 wr)) (fun i _ => l6.length - (intOf i).toNat)
    case atStart => exact ⟨0, Nat.zero_le _, rfl, ⟨by rw [List.take_zero, List.flatMap_nil, List.append_nil]; exact HI4.out⟩, HK4⟩
    case round =>
      obtain ⟨k, hk, rfl, HI, HK⟩ := hrel
      clear HI4 HK4 HI3 HK3 HI2 HK2 HI1 HK1 HI0 HK0
      by_cases hlt : k < l6.length
      · obtain ⟨ad, rfl, hx0, hx1⟩ := kY (Kd.C_below H6.out (iL HBW.out HK.out.1)) (k : Int) (by omega) (by omega)
        rw [O9] at hx0 hx1
        rw [Int.toNat_natCast] at hx0 hx1
        have hts := iE.mk (kT nY xB l6 k hlt)
        have hpl : ([] ++ layB 6 1 ++ layB a1 4 ++ layB a5 4 ++ layB l6.length 1 ++ (l6.take k).flatMap nY).length + 10 ≤ 140737488355328 := by
          simp only [List.length_append, iU, List.length_nil, yX, List.length_take]
          omega
        obtain ⟨s, hs⟩ : ∃ s, s = l6.getD k xB := ⟨_, rfl⟩
        rw [← hs] at hx0 hx1 hts
        clear hs
        obtain ⟨pre, hpre⟩ : ∃ p, p = [] ++ layB 6 1 ++ layB a1 4 ++ layB a5 4 ++ layB l6.length 1 ++ (l6.take k).flatMap nY := ⟨_, rfl⟩
        have hrest : [] ++ layB 6 1 ++ layB a1 4 ++ layB a5 4 ++ layB l6.length 1 ++ (l6.take (k + 1)).flatMap nY = pre ++ nY s := by rw [hts.out, ← List.append_assoc, hpre]
        have HREST := iE.mk hrest
        rw [← hpre] at HI hpl
        have HPL := iE.mk (show (pre ++ layB s.f0 4).length + 1 ≤ 140737488355328 from by rw [List.length_append, iU]; omega)
        have HPL4 := iE.mk (show pre.length + 4 ≤ 140737488355328 from by omega)
        clear hpre hrest hts hpl
        obtain ⟨wo, rfl⟩ : ∃ wo : World, wo = wr := ⟨_, rfl⟩
        have HBX := iE.mk (Bf.alloc HI.out (.cells #[.int .i64 s.f0, .int .i64 s.f1] 132))
        have HKX := iE.mk (HK.out.alloc HK.out.1.size (.cells #[.int .i64 s.f0, .int .i64 s.f1] 132))
        have HNE := iE.mk (show wo.heap.size ≠ w1.heap.size from by have := HI.out.lt; omega)
        go_wp2_with fail
        refine (nN _ _ pre _ _ HBX.out HKX.out.1.size HPL4.out).mono ?_
        rintro e w2 ⟨rfl, hI, hK⟩
        have HI1 := iE.mk hI
        have HK1 := iE.mk (HKX.out.trans hK)
        have hblk := hK.block (jE rfl) HNE.out (by decide)
        clear hI hK
        have hz1 : w2.cell? ⟨wo.heap.size, 1, none⟩ = some (.int .i64 s.f1) := (iD hblk 1).trans rfl
        clear hblk
        go_wp2_with fail
        refine (oW _ _ _ _ _ HI1.out HK1.out.1.size HPL.out).mono ?_
        rintro e w3 ⟨rfl, hI, hK⟩
        have HI2 := iE.mk hI
        have HK2 := iE.mk (HK1.out.trans hK)
        clear hI hK
        go_wp2
        go_roundw
        case rel => exact ⟨k + 1, by omega, by go_num, ⟨by rw [HREST.out, nY, ← List.append_assoc]; exact HI2.out⟩, HK2⟩
        case measure => simp [intOf]; omega
      · skip
        obtain rfl : k = l6.length := by omega
        have hI' := HI.out
        rw [List.take_length] at hI'
        have HI' := iE.mk hI'
        clear hI'
        go_wp2_with (first | (go_at_call 68; refine (Tryd.Buffer_Len w1.heap.size w1.heap.size _ _ (HI'.out)).mono ?_; rintro e wl ⟨rfl, nl, rfl⟩; rw [Lib.byteCells_length, ← HLEN.out]) | (go_at_call 73; refine (Tryd.Buffer_Bytes w1.heap.size w1.heap.size _ _ (HI'.out.drewN _)).mono ?_; rintro e wb ⟨v, rfl, hv, nb, rfl⟩; have HV := iE.mk hv; clear hv))
        go_ret2
        exact ⟨_, rfl, by rw [HX.out, VD]; exact oZ HV.out HBW.out.size, by have hz := HBW.out; have hy := HK.out.1; exact iF (iL hz hy) _⟩
set_option maxHeartbeats 2000000 in
theorem QE (hs : jT ⟨a0, a1, a2, l3, l4, ⟨a5, l6⟩, a7, a8, l9⟩ = false) : Calls Tryd.prog 39 #[.agg #[.int .u8 a0, .int .u32 a1, .int .u32 a2, .slice A3 l3.length c3, .slice A4 l4.length c4, .int .u32 a5, .slice A6 l6.length c6, .int .i64 a7, .int .i64 a8, .slice A9 l9.length c9]] w (pI w (encR ⟨a0, a1, a2, l3, l4, ⟨a5, l6⟩, a7, a8, l9⟩)) := by
  have H3 := iE.mk h3; have H4 := iE.mk h4; have H6 := iE.mk h6; have H9 := iE.mk h9
  clear h3 h4 h6 h9
  unfold encR
  rw [if_neg (by rw [hs]; exact Bool.false_ne_true)]
  have HS := iE.mk hs
  clear hs
  go_enter Tryd.func39, Tryd.ntmps39
  go_wp2_with (first | (go_at_call 41; refine (code_Sound.calls a0 a1 a2 A3 c3 l3 A4 c4 l4 a5 A6 c6 l6 a7 a8 A9 c9 l9 _ _ (Kd.C_below H3.out bel_) d3 (Kd.C_below H4.out bel_) d4 (Kd.C_below H6.out bel_) d6 (Kd.C_below H9.out bel_) d9 rfl).mono ?_; rintro e w1 ⟨rfl, hb1⟩; rw [HS.out]))
  go_ret2
  exact ⟨_, rfl, Kd.R_nil _ _ _ _ _, iL (iG (Below.refl _ _) _) hb1⟩
end
theorem code_Encode.calls (a0_0 : Int) (a0_1 : Int) (a0_2 : Int) (A0_3 : Option Addr) (c0_3 : Nat) (l0_3 : List Int) (A0_4 : Option Addr) (c0_4 : Nat) (l0_4 : List jK) (a0_5 : Int) (A0_6 : Option Addr) (c0_6 : Nat) (l0_6 : List jW) (a0_7 : Int) (a0_8 : Int) (A0_9 : Option Addr) (c0_9 : Nat) (l0_9 : List jF) (r1 : List Int) (r2 : Int) (w : World) (hr0_3 : Kd.C (Kd.int .i64) w A0_3 l0_3.length l0_3) (hc0_3 : l0_3.length ≤ c0_3) (hr0_4 : Kd.C k76 w A0_4 l0_4.length l0_4) (hc0_4 : l0_4.length ≤ c0_4) (hr0_6 : Kd.C k132 w A0_6 l0_6.length l0_6) (hc0_6 : l0_6.length ≤ c0_6) (hr0_9 : Kd.C k124 w A0_9 l0_9.length l0_9) (hc0_9 : l0_9.length ≤ c0_9) (h : code_Encode.f a0_0 a0_1 a0_2 l0_3 l0_4 a0_5 l0_6 a0_7 a0_8 l0_9 = some (r1, r2)) :
    Calls Tryd.prog 39 #[.agg #[.int .u8 a0_0, .int .u32 a0_1, .int .u32 a0_2, .slice A0_3 l0_3.length c0_3, .slice A0_4 l0_4.length c0_4, .int .u32 a0_5, .slice A0_6 l0_6.length c0_6, .int .i64 a0_7, .int .i64 a0_8, .slice A0_9 l0_9.length c0_9]] w fun e w' => ∃ v0_ : Value, e = .returned (.tuple #[v0_, .int .u16 r2]) ∧ Kd.R (Kd.int .u8) 5 w' w.heap.size (fun _ => True) v0_ r1 ∧ Below w.heap.size w w' := by
  have e := Option.some.inj h
  clear h
  have main : Calls Tryd.prog 39 #[.agg #[.int .u8 a0_0, .int .u32 a0_1, .int .u32 a0_2, .slice A0_3 l0_3.length c0_3, .slice A0_4 l0_4.length c0_4, .int .u32 a0_5, .slice A0_6 l0_6.length c0_6, .int .i64 a0_7, .int .i64 a0_8, .slice A0_9 l0_9.length c0_9]] w (pI w (encR ⟨a0_0, a0_1, a0_2, l0_3, l0_4, ⟨a0_5, l0_6⟩, a0_7, a0_8, l0_9⟩)) := by
    clear e
    cases hs : jT ⟨a0_0, a0_1, a0_2, l0_3, l0_4, ⟨a0_5, l0_6⟩, a0_7, a0_8, l0_9⟩ with
    | false => exact QE a0_0 a0_1 a0_2 A0_3 c0_3 l0_3 A0_4 c0_4 l0_4 a0_5 A0_6 c0_6 l0_6 a0_7 a0_8 A0_9 c0_9 l0_9 w hr0_3 hc0_3 hr0_4 hc0_4 hr0_6 hc0_6 hr0_9 hc0_9 hs
    | true =>
      by_cases h0 : a0_0 < 1 ∨ 7 < a0_0
      · rw [TM _ _ _ _ _ _ _ _ _ _ h0] at hs
        cases hs
      have h7 : a0_0 = 1 ∨ a0_0 = 2 ∨ a0_0 = 3 ∨ a0_0 = 4 ∨ a0_0 = 5 ∨ a0_0 = 6 ∨ a0_0 = 7 := by omega
      rcases h7 with rfl | rfl | rfl | rfl | rfl | rfl | rfl
      · exact QJ a0_1 a0_2 A0_3 c0_3 l0_3 A0_4 c0_4 l0_4 a0_5 A0_6 c0_6 l0_6 a0_7 a0_8 A0_9 c0_9 l0_9 w hr0_3 hc0_3 hr0_4 hc0_4 hr0_6 hc0_6 hr0_9 hc0_9 hs
      · exact RV a0_1 a0_2 A0_3 c0_3 l0_3 A0_4 c0_4 l0_4 a0_5 A0_6 c0_6 l0_6 a0_7 a0_8 A0_9 c0_9 l0_9 w hr0_3 hc0_3 hr0_4 hc0_4 hr0_6 hc0_6 hr0_9 hc0_9 hs
      · exact QQ a0_1 a0_2 A0_3 c0_3 l0_3 A0_4 c0_4 l0_4 a0_5 A0_6 c0_6 l0_6 a0_7 a0_8 A0_9 c0_9 l0_9 w hr0_3 hc0_3 hr0_4 hc0_4 hr0_6 hc0_6 hr0_9 hc0_9 hs
      · exact QU a0_1 a0_2 A0_3 c0_3 l0_3 A0_4 c0_4 l0_4 a0_5 A0_6 c0_6 l0_6 a0_7 a0_8 A0_9 c0_9 l0_9 w hr0_3 hc0_3 hr0_4 hc0_4 hr0_6 hc0_6 hr0_9 hc0_9 hs
      · exact RF a0_1 a0_2 A0_3 c0_3 l0_3 A0_4 c0_4 l0_4 a0_5 A0_6 c0_6 l0_6 a0_7 a0_8 A0_9 c0_9 l0_9 w hr0_3 hc0_3 hr0_4 hc0_4 hr0_6 hc0_6 hr0_9 hc0_9 hs
      · exact QB a0_1 a0_2 A0_3 c0_3 l0_3 A0_4 c0_4 l0_4 a0_5 A0_6 c0_6 l0_6 a0_7 a0_8 A0_9 c0_9 l0_9 w hr0_3 hc0_3 hr0_4 hc0_4 hr0_6 hc0_6 hr0_9 hc0_9 hs
      · exact QI a0_1 a0_2 A0_3 c0_3 l0_3 A0_4 c0_4 l0_4 a0_5 A0_6 c0_6 l0_6 a0_7 a0_8 A0_9 c0_9 l0_9 w hr0_3 hc0_3 hr0_4 hc0_4 hr0_6 hc0_6 hr0_9 hc0_9 hs
  rw [e] at main
  exact main
end Go.Proofs.YtbbhjceelghadaaDoor.K
end

section
namespace Go.Proofs.YtbbhjceelghadaaDoor.K
open Go.RowKit Go.Proofs.YtbbhjceelghadaaDoorW.PrintWords Go.Proofs.YtbbhjceelghadaaDoorW.PrintLast Go.Proofs.YtbbhjceelghadaaDoorW.PrintMore
attribute [local go_sem] kJ kF kV kU jS jU kD kE
def stratumref07_Put.l0 : Nat → List Int → Int → Int → Option (List Int)
  | 0, _, _, _ => none
  | k + 1, x0, x1, x7 => if x7 ≥ 0 then (if 0 ≤ (IntKind.u64.wrap (8 * (IntKind.u64.wrap (x7)))) then (if x0.length < 140737488355328 then (stratumref07_Put.l0 k (x0 ++ [(shr .u64 x1 (IntKind.u64.wrap (8 * (IntKind.u64.wrap (x7))))) % 256]) x1 (wrap64 (x7 - 1))) else (none)) else (none)) else (some x0)
def stratumref07_Put.f (k : Nat) (l0 : List Int) (a1 : Int) (a2 : Int) : Option (List Int) := stratumref07_Put.l0 k l0 a1 (wrap64 (a2 - 1))
theorem stratumref07_Put.mono_l : ∀ k, (∀ y0 y1 y2, LeO (stratumref07_Put.l0 k y0 y1 y2) (stratumref07_Put.l0 (k + 1) y0 y1 y2))
  | 0 => fun _ _ _ r h => by simp [stratumref07_Put.l0] at h
  | k + 1 => by
    have ih0 := stratumref07_Put.mono_l k
    · intro y0 y1 y2
      unfold stratumref07_Put.l0
      repeat' first
      | (with_reducible exact ih0 _ _ _)
      | (with_reducible exact LeO.refl _)
      | (with_reducible exact LeO.none _)
      | (with_reducible refine LeO.ite ?_ ?_)
      | (with_reducible refine LeO.bind ?_ (fun _ => ?_))
      | exact ih0 _ _ _
      | exact LeO.none _
      | refine LeO.ite ?_ ?_
      | refine LeO.bind ?_ (fun _ => ?_)
theorem stratumref07_Put.mono : ∀ a0 a1 a2 k, LeO (stratumref07_Put.f k a0 a1 a2) (stratumref07_Put.f (k + 1) a0 a1 a2) := by
  intro a0 a1 a2 k
  have ih0 := stratumref07_Put.mono_l k
  unfold stratumref07_Put.f
  repeat' first
      | (with_reducible exact ih0 _ _ _)
      | (with_reducible exact LeO.refl _)
      | (with_reducible exact LeO.none _)
      | (with_reducible refine LeO.ite ?_ ?_)
      | (with_reducible refine LeO.bind ?_ (fun _ => ?_))
      | exact ih0 _ _ _
      | exact LeO.none _
      | refine LeO.ite ?_ ?_
      | refine LeO.bind ?_ (fun _ => ?_)
set_option maxHeartbeats 8000000 in
set_option maxRecDepth 100000 in
theorem stratumref07_Put.calls (k : Nat) (P0_ : Nat → Prop) (u9000_ : Value) (l0 : List Int) (a1 : Int) (a2 : Int) (r : List Int) (w0 w : World) (hB : Below w0.heap.size w0 w) (ho0 : Kd.R (Kd.int .u8) 5 w w0.heap.size P0_ u9000_ l0) (h : stratumref07_Put.f k l0 a1 a2 = some r) :
    Calls Tryd.prog 86 #[u9000_, .int .u64 a1, .int .i64 a2] w fun e w' => ∃ v0_ : Value, e = .returned (v0_) ∧ Kd.R (Kd.int .u8) 5 w' w0.heap.size (fun k_ => (P0_ k_ ∨ w.heap.size ≤ k_)) v0_ r ∧ Below w0.heap.size w0 w' ∧ Kept w w' (fun k_ => P0_ k_) := by
  have HO0 := iE.mk (show Kd.R (Kd.int .u8) 5 w w0.heap.size (fun k_ => (P0_ k_ ∨ w.heap.size ≤ k_)) u9000_ l0 from Kd.R_mono ho0 (fun k_ hk => (.inl hk)))
  have HK := iE.mk (Kept.refl w (fun k_ => P0_ k_))
  have HW0 := iE.mk hB.size
  have HB := iE.mk hB
  clear hB
  have H : (stratumref07_Put.l0 k l0 a1 (wrap64 (a2 - 1))) = some r := h
  clear h
  have H' := iE.mk H
  clear H
  go_enter Tryd.func86, Tryd.ntmps86
  go_wp2
  go_loopg [0, 7] k (fun kq v0 v7 w' => ∃ (x0_1 : List Int) (x7_1 : Int), v7 = .int .i64 x7_1 ∧ iE (stratumref07_Put.l0 kq x0_1 a1 x7_1 = some r) ∧ iE (kq ≤ k) ∧ iE (Kd.R (Kd.int .u8) 5 w' w0.heap.size (fun k_ => (P0_ k_ ∨ w.heap.size ≤ k_)) v0 x0_1) ∧ iE (Kept w w' (fun k_ => P0_ k_)) ∧ iE (Below w0.heap.size w0 w'))
  case atStart => exact ⟨(l0), (wrap64 (a2 - 1)), (by first | rfl | (simp; done) | (simp [*]; done)), H', ⟨Nat.le_refl _⟩, ⟨by (with_reducible repeat (first | apply Kd.R_alloc | apply Kd.R_drewN | apply Kd.R_drew)); exact HO0.out⟩, ⟨by repeat (first | (with_reducible first | exact HK.out | apply Kept.alloc | apply Kept.drewN | apply Kept.drew) | exact HK.out)⟩, ⟨hb_⟩⟩
  case round =>
    clear H'
    try clear p2
    obtain ⟨x0_1, x7_1, rfl, HA, HK1, HO_0, HK, HB⟩ := hrel
    cases gk with
    | zero => exact absurd HA.out (by simp [stratumref07_Put.l0])
    | succ k1 =>
      have H := HA.out
      clear HA
      simp only [stratumref07_Put.l0] at H
      by_cases c4 : x7_1 ≥ 0
      · rw [if_pos c4] at H
        have c4b0 : decide (0 ≤ x7_1) = true := decide_eq_true c4
        clear c4
        obtain ⟨ji5, hji5⟩ : ∃ j_ : Int, (IntKind.u64.wrap (8 * (IntKind.u64.wrap (x7_1)))) = j_ := ⟨_, rfl⟩
        replace H : (if 0 ≤ (ji5) then (if x0_1.length < 140737488355328 then (stratumref07_Put.l0 k1 (x0_1 ++ [(shr .u64 a1 (ji5)) % 256]) a1 (wrap64 (x7_1 - 1))) else (none)) else (none)) = some r := by first | (rw [hji5] at H; exact H) | (simp only [hji5] at H ⊢; exact H)
        by_cases c6 : 0 ≤ (ji5)
        · rw [if_pos c6] at H
          have c6b0 := eq_true c6
          have c6b1 : decide (0 ≤ (ji5)) = true := decide_eq_true c6
          clear c6
          obtain ⟨ji7, hji7⟩ : ∃ j_ : Int, (shr .u64 a1 (ji5)) = j_ := ⟨_, rfl⟩
          replace H : (if x0_1.length < 140737488355328 then (stratumref07_Put.l0 k1 (x0_1 ++ [(ji7) % 256]) a1 (wrap64 (x7_1 - 1))) else (none)) = some r := by first | (rw [hji7] at H; exact H) | (simp only [hji7] at H ⊢; exact H)
          have hji7_ : (a1 / 2 ^ min (ji5).toNat 64) = ji7 := hji7
          have hji7z : (ji5) ≤ 64 → (a1 / 2 ^ (ji5).toNat) = ji7 := IR hji7
          by_cases c8 : x0_1.length < 140737488355328
          · rw [if_pos c8] at H
            have LMc8 := iE.mk c8
            clear c8
            obtain ⟨y146, hy146⟩ : ∃ y_ : List Int, y_ = (x0_1 ++ [(ji7) % 256]) := ⟨_, rfl⟩
            replace H : (stratumref07_Put.l0 k1 y146 a1 (wrap64 (x7_1 - 1))) = some r := by first | (rw [hy146]; with_reducible exact H) | (have H2_ := (Option.bind_some _ _).symm.trans H; rw [hy146]; with_reducible exact H2_) | (have H2_ := (Option.bind_some _ _).symm.trans H; with_reducible exact H2_) | with_reducible exact H | (rw [hy146]; exact H) | exact H
            have Ny146 := iE.mk hy146
            clear hy146
            have H' := iE.mk H
            clear H
            go_wp2_with (first | ((with_reducible refine oG (b := .append) (xs := #[.tmp 14, .tmp 21]) rfl ?_); at_builtin; refine Kd.R_append (Kd.int .u8) (w0 := w0) w0.heap.size rfl (.tmp 14) (.tmp 21) 23 5 (.int .u8 0) 1 rfl Tryd.underlying23 info5 rfl (by decide) (by omega) u0 x0_1 ((ji7) % 256) [.int .u8 ((ji7) % 256)] (fun k_ => (P0_ k_ ∨ w.heap.size ≤ k_)) (fun _ => False) rfl rfl ?aP (fun _ hk => hk.elim) ?aF ?aO ?aB ?aS ?aL ?_; (case aP => exact rfl); (case aB => exact hb_); (case aF => exact (fun k_ hk => (.inr (Nat.le_trans (by first | exact HK.out.1 | exact (show Kept w _ (fun k_ => P0_ k_) from by repeat (first | (with_reducible first | exact HK.out | apply Kept.alloc | apply Kept.drewN | apply Kept.drew) | exact HK.out)).1) hk)))); (case aO => exact (by (with_reducible repeat (first | apply Kd.R_alloc | apply Kd.R_drewN | apply Kd.R_drew)); exact HO_0.out)); (case aS => exact (iT hb_)); (case aL => have := LMc8.out; omega); intro v147 w9 ho hb hg hat; rw [← Ny146.out] at ho; have n0_ := iE.mk (hb); have n1_ := iE.mk (Kept.of_grown (S := (fun k_ => P0_ k_)) hg (by repeat (first | (with_reducible first | exact HK.out | apply Kept.alloc | apply Kept.drewN | apply Kept.drew) | exact HK.out)) (fun k_ e_ => (HO_0.out.1 k_ e_))); have n2_ := iE.mk (ho); clear HB; clear HK; clear HO_0; have HB := n0_; have HK := n1_; have HO148 := n2_; clear n0_ n1_ n2_; clear ho hb hg hat))
            go_roundg k1
            case measure => have := HK1.out; omega
            case rel => exact ⟨(y146), (wrap64 (x7_1 - 1)), (by first | rfl | (simp; done) | (simp [*]; done)), H', ⟨by have := HK1.out; omega⟩, ⟨by (with_reducible repeat (first | apply Kd.R_alloc | apply Kd.R_drewN | apply Kd.R_drew)); exact HO148.out⟩, ⟨by repeat (first | (with_reducible first | exact HK.out | apply Kept.alloc | apply Kept.drewN | apply Kept.drew) | exact HK.out)⟩, ⟨hb_⟩⟩
          · rw [if_neg c8] at H
            exact absurd H (by simp)
        · rw [if_neg c6] at H
          exact absurd H (by simp)
      · rw [if_neg c4] at H
        have c4b0 : decide (0 ≤ x7_1) = false := decide_eq_false c4
        clear c4
        obtain rfl := Option.some.inj H
        go_wp2
        go_ret
        exact ⟨_, by first | rfl | (simp [iQ, iR] <;> rfl) | (simp [*, iQ, iR] <;> rfl), by (with_reducible repeat (first | apply Kd.R_alloc | apply Kd.R_drewN | apply Kd.R_drew)); exact HO_0.out, hb_, by repeat (first | (with_reducible first | exact HK.out | apply Kept.alloc | apply Kept.drewN | apply Kept.drew) | exact HK.out)⟩
end Go.Proofs.YtbbhjceelghadaaDoor.K
end

section
namespace Go.Proofs.YtbbhjceelghadaaDoor.K
open Go.RowKit Go.Proofs.YtbbhjceelghadaaDoorW.PrintWords Go.Proofs.YtbbhjceelghadaaDoorW.PrintLast Go.Proofs.YtbbhjceelghadaaDoorW.PrintMore
attribute [local go_sem] kJ kF kV kU jS jU kD kE
def stratumref07_Nodes.l0 : Nat → List Int → List Int → Int → Option (List Int)
  | 0, _, _, _ => none
  | k + 1, x0, x1, x5 => if x5 < (x1.length : Int) then (if 0 ≤ x5 then ((stratumref07_Put.f k x0 (IntKind.u64.wrap (rd x1 x5)) 1).bind fun t153 => (stratumref07_Nodes.l0 k t153 x1 (wrap64 (x5 + 1)))) else (none)) else (some x0)
def stratumref07_Nodes.f (k : Nat) (l0 : List Int) (l1 : List Int) : Option (List Int) := (stratumref07_Put.f k l0 (IntKind.u64.wrap ((l1.length : Int))) 1).bind fun t149 => (stratumref07_Nodes.l0 k t149 l1 0)
theorem stratumref07_Nodes.mono_l : ∀ k, (∀ y0 y1 y2, LeO (stratumref07_Nodes.l0 k y0 y1 y2) (stratumref07_Nodes.l0 (k + 1) y0 y1 y2))
  | 0 => fun _ _ _ r h => by simp [stratumref07_Nodes.l0] at h
  | k + 1 => by
    have ih0 := stratumref07_Nodes.mono_l k
    · intro y0 y1 y2
      unfold stratumref07_Nodes.l0
      repeat' first
      | (with_reducible exact ih0 _ _ _)
      | (with_reducible exact stratumref07_Put.mono _ _ _ _)
      | (with_reducible exact LeO.refl _)
      | (with_reducible exact LeO.none _)
      | (with_reducible refine LeO.ite ?_ ?_)
      | (with_reducible refine LeO.bind ?_ (fun _ => ?_))
      | exact ih0 _ _ _
      | exact stratumref07_Put.mono _ _ _ _
      | exact LeO.none _
      | refine LeO.ite ?_ ?_
      | refine LeO.bind ?_ (fun _ => ?_)
theorem stratumref07_Nodes.mono : ∀ a0 a1 k, LeO (stratumref07_Nodes.f k a0 a1) (stratumref07_Nodes.f (k + 1) a0 a1) := by
  intro a0 a1 k
  have ih0 := stratumref07_Nodes.mono_l k
  unfold stratumref07_Nodes.f
  repeat' first
      | (with_reducible exact ih0 _ _ _)
      | (with_reducible exact stratumref07_Put.mono _ _ _ _)
      | (with_reducible exact LeO.refl _)
      | (with_reducible exact LeO.none _)
      | (with_reducible refine LeO.ite ?_ ?_)
      | (with_reducible refine LeO.bind ?_ (fun _ => ?_))
      | exact ih0 _ _ _
      | exact stratumref07_Put.mono _ _ _ _
      | exact LeO.none _
      | refine LeO.ite ?_ ?_
      | refine LeO.bind ?_ (fun _ => ?_)
set_option maxHeartbeats 8000000 in
set_option maxRecDepth 100000 in
theorem stratumref07_Nodes.calls (k : Nat) (P0_ : Nat → Prop) (u9000_ : Value) (l0 : List Int) (A1 : Option Addr) (c1 : Nat) (l1 : List Int) (r : List Int) (w0 w : World) (hB : Below w0.heap.size w0 w) (ho0 : Kd.R (Kd.int .u8) 5 w w0.heap.size P0_ u9000_ l0) (hr1 : ∀ W_, Kept w W_ (fun k_ => P0_ k_) → Kd.C (Kd.int .i64) W_ A1 l1.length l1) (hc1 : l1.length ≤ c1) (h : stratumref07_Nodes.f k l0 l1 = some r) :
    Calls Tryd.prog 87 #[u9000_, .slice A1 l1.length c1] w fun e w' => ∃ v0_ : Value, e = .returned (v0_) ∧ Kd.R (Kd.int .u8) 5 w' w0.heap.size (fun k_ => (P0_ k_ ∨ w.heap.size ≤ k_)) v0_ r ∧ Below w0.heap.size w0 w' ∧ Kept w w' (fun k_ => P0_ k_) := by
  have HO0 := iE.mk (show Kd.R (Kd.int .u8) 5 w w0.heap.size (fun k_ => (P0_ k_ ∨ w.heap.size ≤ k_)) u9000_ l0 from Kd.R_mono ho0 (fun k_ hk => (.inl hk)))
  have HR1 := iE.mk hr1
  have HC1 := iE.mk hc1
  clear hr1 hc1
  have HK := iE.mk (Kept.refl w (fun k_ => P0_ k_))
  have HW0 := iE.mk hB.size
  have HB := iE.mk hB
  clear hB
  have H : ((stratumref07_Put.f k l0 (IntKind.u64.wrap ((l1.length : Int))) 1).bind fun t149 => (stratumref07_Nodes.l0 k t149 l1 0)) = some r := h
  clear h
  replace H := Option.bind_eq_some_iff.mp H
  obtain ⟨t149, A30, H⟩ := H
  replace H : (stratumref07_Nodes.l0 k t149 l1 0) = some r := H
  have A3 := iE.mk A30
  clear A30
  have H' := iE.mk H
  clear H
  obtain ⟨Ao4, co4, eo4⟩ := Kd.R_slice HO0.out
  subst eo4
  go_enter Tryd.func87, Tryd.ntmps87
  go_wp2_with (first | ((with_reducible refine jL (f := 86) rfl ?_); refine lX (some 10) rfl rfl Tryd.func86 (by kernel_rfl) rfl #[.slice Ao4 l0.length co4, .int .u64 (IntKind.u64.wrap ((l1.length : Int))), .int .i64 1] rfl (by (try simp only [List.map_toArray, List.map_cons, List.map_nil]); first | done | rfl | (simp only [List.length_drop, List.length_take]; rfl)) ?_; (with_reducible refine (stratumref07_Put.calls k (fun k_ => some k_ = (.slice Ao4 l0.length co4 : Value).ownBlock) (.slice Ao4 l0.length co4) l0 (IntKind.u64.wrap ((l1.length : Int))) 1 t149 w0 _ ?side1 ?side2 A3.out).mono ?_); (case side1 => repeat (first | (with_reducible first | exact HB.out | apply iG | apply iF | apply iH) | exact HB.out)); (case side2 => exact Kd.R_tight rfl HO0.out); rintro e w5 ⟨v150, rfl, ho0, hb, hkp⟩; refine ⟨_, rfl, ?_⟩; have n0_ := iE.mk (Kd.R_mono (ok' := fun k_ => (P0_ k_ ∨ w.heap.size ≤ k_)) ho0 (fun k_ hk_ => Or.elim hk_ (fun hs_ => (HO0.out.1 k_ (hs_).symm)) (fun hn_ => (.inr (Nat.le_trans (by first | exact HK.out.1 | exact (show Kept w _ (fun k_ => P0_ k_) from by repeat (first | (with_reducible first | exact HK.out | apply Kept.alloc | apply Kept.drewN | apply Kept.drew) | exact HK.out)).1) hn_))))); have n1_ := iE.mk (Kept.then_ (S := (fun k_ => P0_ k_)) (by repeat (first | (with_reducible first | exact HK.out | apply Kept.alloc | apply Kept.drewN | apply Kept.drew) | exact HK.out)) hkp (fun k_ hs_ => (fun e_ => (HO0.out.1 k_ e_.symm)) hs_)); have n2_ := iE.mk (hb); clear HK; clear HB; clear HO0; have HO151 := n0_; have HK := n1_; have HB := n2_; clear n0_ n1_ n2_; (try clear hb); (try clear hkp); (try clear ho0)))
  go_loopg [0, 5] k (fun kq v0 v5 w' => ∃ (x0_1 : List Int) (x5_1 : Int), v5 = .int .i64 x5_1 ∧ iE (stratumref07_Nodes.l0 kq x0_1 l1 x5_1 = some r) ∧ iE (kq ≤ k) ∧ iE (Kd.R (Kd.int .u8) 5 w' w0.heap.size (fun k_ => (P0_ k_ ∨ w.heap.size ≤ k_)) v0 x0_1) ∧ iE (Kept w w' (fun k_ => P0_ k_)) ∧ iE (Below w0.heap.size w0 w'))
  case atStart => exact ⟨(t149), (0), (by first | rfl | (simp; done) | (simp [*]; done)), H', ⟨Nat.le_refl _⟩, ⟨by (with_reducible repeat (first | apply Kd.R_alloc | apply Kd.R_drewN | apply Kd.R_drew)); exact HO151.out⟩, ⟨by repeat (first | (with_reducible first | exact HK.out | apply Kept.alloc | apply Kept.drewN | apply Kept.drew) | exact HK.out)⟩, ⟨hb_⟩⟩
  case round =>
    clear H'
    try clear c1
    try clear p2
    obtain ⟨x0_1, x5_1, rfl, HA, HK1, HO_0, HK, HB⟩ := hrel
    cases gk with
    | zero => exact absurd HA.out (by simp [stratumref07_Nodes.l0])
    | succ k1 =>
      have H := HA.out
      clear HA
      simp only [stratumref07_Nodes.l0] at H
      by_cases c6 : x5_1 < (l1.length : Int)
      · rw [if_pos c6] at H
        have c6b0 : decide (x5_1 < (l1.length : Int)) = true := decide_eq_true c6
        clear c6
        by_cases c7 : 0 ≤ x5_1
        · rw [if_pos c7] at H
          have c7b0 : decide (0 ≤ x5_1) = true := decide_eq_true c7
          clear c7
          replace H := Option.bind_eq_some_iff.mp H
          obtain ⟨t153, A80, H⟩ := H
          replace H : (stratumref07_Nodes.l0 k1 t153 l1 (wrap64 (x5_1 + 1))) = some r := H
          have A8 := iE.mk A80
          clear A80
          have H' := iE.mk H
          clear H
          have p152 : 0 ≤ (x5_1 : Int) := of_decide_eq_true asm_
          have q152 : x5_1 < (l1.length : Int) := of_decide_eq_true asm_
          obtain ⟨ad152, e152, hx152_0⟩ := Kd.at_int (Kd.C_kept_now HR1.out HK.out) x5_1 p152 q152
          cases e152
          replace p152 := eq_true p152
          replace q152 := eq_true q152
          obtain ⟨Ao9, co9, eo9⟩ := Kd.R_slice HO_0.out
          subst eo9
          go_wp2_with (first | ((with_reducible refine jL (f := 86) rfl ?_); refine lX (some 23) rfl rfl Tryd.func86 (by kernel_rfl) rfl #[.slice Ao9 x0_1.length co9, .int .u64 (IntKind.u64.wrap (rd l1 x5_1)), .int .i64 1] rfl (by (try simp only [List.map_toArray, List.map_cons, List.map_nil]); first | done | rfl | (simp only [List.length_drop, List.length_take]; rfl)) ?_; (with_reducible refine (stratumref07_Put.calls k1 (fun k_ => some k_ = (.slice Ao9 x0_1.length co9 : Value).ownBlock) (.slice Ao9 x0_1.length co9) x0_1 (IntKind.u64.wrap (rd l1 x5_1)) 1 t153 w0 _ ?side1 ?side2 A8.out).mono ?_); (case side1 => repeat (first | (with_reducible first | exact HB.out | apply iG | apply iF | apply iH) | exact HB.out)); (case side2 => exact Kd.R_tight rfl HO_0.out); rintro e w10 ⟨v154, rfl, ho0, hb, hkp⟩; refine ⟨_, rfl, ?_⟩; have n0_ := iE.mk (Kd.R_mono (ok' := fun k_ => (P0_ k_ ∨ w.heap.size ≤ k_)) ho0 (fun k_ hk_ => Or.elim hk_ (fun hs_ => (HO_0.out.1 k_ (hs_).symm)) (fun hn_ => (.inr (Nat.le_trans (by first | exact HK.out.1 | exact (show Kept w _ (fun k_ => P0_ k_) from by repeat (first | (with_reducible first | exact HK.out | apply Kept.alloc | apply Kept.drewN | apply Kept.drew) | exact HK.out)).1) hn_))))); have n1_ := iE.mk (Kept.then_ (S := (fun k_ => P0_ k_)) (by repeat (first | (with_reducible first | exact HK.out | apply Kept.alloc | apply Kept.drewN | apply Kept.drew) | exact HK.out)) hkp (fun k_ hs_ => (fun e_ => (HO_0.out.1 k_ e_.symm)) hs_)); have n2_ := iE.mk (hb); clear HK; clear HB; clear HO_0; have HO155 := n0_; have HK := n1_; have HB := n2_; clear n0_ n1_ n2_; (try clear hb); (try clear hkp); (try clear ho0)))
          go_roundg k1
          case measure => have := HK1.out; omega
          case rel => exact ⟨(t153), (wrap64 (x5_1 + 1)), (by first | rfl | (simp; done) | (simp [*]; done)), H', ⟨by have := HK1.out; omega⟩, ⟨by (with_reducible repeat (first | apply Kd.R_alloc | apply Kd.R_drewN | apply Kd.R_drew)); exact HO155.out⟩, ⟨by repeat (first | (with_reducible first | exact HK.out | apply Kept.alloc | apply Kept.drewN | apply Kept.drew) | exact HK.out)⟩, ⟨hb_⟩⟩
        · rw [if_neg c7] at H
          exact absurd H (by simp)
      · rw [if_neg c6] at H
        have c6b0 : decide (x5_1 < (l1.length : Int)) = false := decide_eq_false c6
        clear c6
        obtain rfl := Option.some.inj H
        go_wp2
        go_ret
        exact ⟨_, by first | rfl | (simp [iQ, iR] <;> rfl) | (simp [*, iQ, iR] <;> rfl), by (with_reducible repeat (first | apply Kd.R_alloc | apply Kd.R_drewN | apply Kd.R_drew)); exact HO_0.out, hb_, by repeat (first | (with_reducible first | exact HK.out | apply Kept.alloc | apply Kept.drewN | apply Kept.drew) | exact HK.out)⟩
end Go.Proofs.YtbbhjceelghadaaDoor.K
end

section
namespace Go.Proofs.YtbbhjceelghadaaDoor.K
open Go.RowKit Go.Proofs.YtbbhjceelghadaaDoorW.PrintWords Go.Proofs.YtbbhjceelghadaaDoorW.PrintLast Go.Proofs.YtbbhjceelghadaaDoorW.PrintMore
attribute [local go_sem] kJ kF kV kU jS jU kD kE
mutual
def stratumref07_Facts.l0 : Nat → List Int → List (S76) → Int → Option (List Int)
  | 0, _, _, _ => none
  | k + 1, x0, x1, x5 => if x5 < (x1.length : Int) then (if 0 ≤ x5 then ((stratumref07_Put.f k x0 (IntKind.u64.wrap ((((iY x1 x5).f0).length : Int))) 1).bind fun t160 => (stratumref07_Facts.l1 k t160 x1 x5 0)) else (none)) else (some x0)
def stratumref07_Facts.l1 : Nat → List Int → List (S76) → Int → Int → Option (List Int)
  | 0, _, _, _, _ => none
  | k + 1, x0, x1, x5, x6 => if 0 ≤ x5 then (if x5 < (x1.length : Int) then (if x6 < (((iY x1 x5).f0).length : Int) then (if 0 ≤ x6 then ((stratumref07_Put.f k x0 (IntKind.u64.wrap (rd ((iY x1 x5).f0) x6)) 4).bind fun t166 => (stratumref07_Facts.l1 k t166 x1 x5 (wrap64 (x6 + 1)))) else (none)) else ((stratumref07_Put.f k x0 (IntKind.u64.wrap ((iY x1 x5).f1)) 8).bind fun t170 => (stratumref07_Facts.l0 k t170 x1 (wrap64 (x5 + 1))))) else (none)) else (none)
end
def stratumref07_Facts.f (k : Nat) (l0 : List Int) (l1 : List (S76)) : Option (List Int) := (stratumref07_Put.f k l0 (IntKind.u64.wrap ((l1.length : Int))) 4).bind fun t156 => (stratumref07_Facts.l0 k t156 l1 0)
theorem stratumref07_Facts.mono_l : ∀ k, (∀ y0 y1 y2, LeO (stratumref07_Facts.l0 k y0 y1 y2) (stratumref07_Facts.l0 (k + 1) y0 y1 y2)) ∧ (∀ y0 y1 y2 y3, LeO (stratumref07_Facts.l1 k y0 y1 y2 y3) (stratumref07_Facts.l1 (k + 1) y0 y1 y2 y3))
  | 0 => ⟨fun _ _ _ r h => by simp [stratumref07_Facts.l0] at h, fun _ _ _ _ r h => by simp [stratumref07_Facts.l1] at h⟩
  | k + 1 => by
    obtain ⟨ih0, ih1⟩ := stratumref07_Facts.mono_l k
    refine ⟨?_, ?_⟩
    · intro y0 y1 y2
      unfold stratumref07_Facts.l0
      repeat' first
      | (with_reducible exact ih0 _ _ _)
      | (with_reducible exact ih1 _ _ _ _)
      | (with_reducible exact stratumref07_Put.mono _ _ _ _)
      | (with_reducible exact LeO.refl _)
      | (with_reducible exact LeO.none _)
      | (with_reducible refine LeO.ite ?_ ?_)
      | (with_reducible refine LeO.bind ?_ (fun _ => ?_))
      | exact ih0 _ _ _
      | exact ih1 _ _ _ _
      | exact stratumref07_Put.mono _ _ _ _
      | exact LeO.none _
      | refine LeO.ite ?_ ?_
      | refine LeO.bind ?_ (fun _ => ?_)
    · intro y0 y1 y2 y3
      unfold stratumref07_Facts.l1
      repeat' first
      | (with_reducible exact ih0 _ _ _)
      | (with_reducible exact ih1 _ _ _ _)
      | (with_reducible exact stratumref07_Put.mono _ _ _ _)
      | (with_reducible exact LeO.refl _)
      | (with_reducible exact LeO.none _)
      | (with_reducible refine LeO.ite ?_ ?_)
      | (with_reducible refine LeO.bind ?_ (fun _ => ?_))
      | exact ih0 _ _ _
      | exact ih1 _ _ _ _
      | exact stratumref07_Put.mono _ _ _ _
      | exact LeO.none _
      | refine LeO.ite ?_ ?_
      | refine LeO.bind ?_ (fun _ => ?_)
theorem stratumref07_Facts.mono : ∀ a0 a1 k, LeO (stratumref07_Facts.f k a0 a1) (stratumref07_Facts.f (k + 1) a0 a1) := by
  intro a0 a1 k
  obtain ⟨ih0, ih1⟩ := stratumref07_Facts.mono_l k
  unfold stratumref07_Facts.f
  repeat' first
      | (with_reducible exact ih0 _ _ _)
      | (with_reducible exact ih1 _ _ _ _)
      | (with_reducible exact stratumref07_Put.mono _ _ _ _)
      | (with_reducible exact LeO.refl _)
      | (with_reducible exact LeO.none _)
      | (with_reducible refine LeO.ite ?_ ?_)
      | (with_reducible refine LeO.bind ?_ (fun _ => ?_))
      | exact ih0 _ _ _
      | exact ih1 _ _ _ _
      | exact stratumref07_Put.mono _ _ _ _
      | exact LeO.none _
      | refine LeO.ite ?_ ?_
      | refine LeO.bind ?_ (fun _ => ?_)
set_option maxHeartbeats 8000000 in
set_option maxRecDepth 100000 in
theorem stratumref07_Facts.calls (k : Nat) (P0_ : Nat → Prop) (u9000_ : Value) (l0 : List Int) (A1 : Option Addr) (c1 : Nat) (l1 : List (S76)) (r : List Int) (w0 w : World) (hB : Below w0.heap.size w0 w) (ho0 : Kd.R (Kd.int .u8) 5 w w0.heap.size P0_ u9000_ l0) (hr1 : ∀ W_, Kept w W_ (fun k_ => P0_ k_) → Kd.C k76 W_ A1 l1.length l1) (hc1 : l1.length ≤ c1) (h : stratumref07_Facts.f k l0 l1 = some r) :
    Calls Tryd.prog 88 #[u9000_, .slice A1 l1.length c1] w fun e w' => ∃ v0_ : Value, e = .returned (v0_) ∧ Kd.R (Kd.int .u8) 5 w' w0.heap.size (fun k_ => (P0_ k_ ∨ w.heap.size ≤ k_)) v0_ r ∧ Below w0.heap.size w0 w' ∧ Kept w w' (fun k_ => P0_ k_) := by
  have HO0 := iE.mk (show Kd.R (Kd.int .u8) 5 w w0.heap.size (fun k_ => (P0_ k_ ∨ w.heap.size ≤ k_)) u9000_ l0 from Kd.R_mono ho0 (fun k_ hk => (.inl hk)))
  have HR1 := iE.mk hr1
  have HC1 := iE.mk hc1
  clear hr1 hc1
  have HK := iE.mk (Kept.refl w (fun k_ => P0_ k_))
  have HW0 := iE.mk hB.size
  have HB := iE.mk hB
  clear hB
  have H : ((stratumref07_Put.f k l0 (IntKind.u64.wrap ((l1.length : Int))) 4).bind fun t156 => (stratumref07_Facts.l0 k t156 l1 0)) = some r := h
  clear h
  replace H := Option.bind_eq_some_iff.mp H
  obtain ⟨t156, A30, H⟩ := H
  replace H : (stratumref07_Facts.l0 k t156 l1 0) = some r := H
  have A3 := iE.mk A30
  clear A30
  have H' := iE.mk H
  clear H
  obtain ⟨Ao4, co4, eo4⟩ := Kd.R_slice HO0.out
  subst eo4
  go_enter Tryd.func88, Tryd.ntmps88
  go_wp2_with (first | ((with_reducible refine jL (f := 86) rfl ?_); refine lX (some 11) rfl rfl Tryd.func86 (by kernel_rfl) rfl #[.slice Ao4 l0.length co4, .int .u64 (IntKind.u64.wrap ((l1.length : Int))), .int .i64 4] rfl (by (try simp only [List.map_toArray, List.map_cons, List.map_nil]); first | done | rfl | (simp only [List.length_drop, List.length_take]; rfl)) ?_; (with_reducible refine (stratumref07_Put.calls k (fun k_ => some k_ = (.slice Ao4 l0.length co4 : Value).ownBlock) (.slice Ao4 l0.length co4) l0 (IntKind.u64.wrap ((l1.length : Int))) 4 t156 w0 _ ?side1 ?side2 A3.out).mono ?_); (case side1 => repeat (first | (with_reducible first | exact HB.out | apply iG | apply iF | apply iH) | exact HB.out)); (case side2 => exact Kd.R_tight rfl HO0.out); rintro e w5 ⟨v157, rfl, ho0, hb, hkp⟩; refine ⟨_, rfl, ?_⟩; have n0_ := iE.mk (Kd.R_mono (ok' := fun k_ => (P0_ k_ ∨ w.heap.size ≤ k_)) ho0 (fun k_ hk_ => Or.elim hk_ (fun hs_ => (HO0.out.1 k_ (hs_).symm)) (fun hn_ => (.inr (Nat.le_trans (by first | exact HK.out.1 | exact (show Kept w _ (fun k_ => P0_ k_) from by repeat (first | (with_reducible first | exact HK.out | apply Kept.alloc | apply Kept.drewN | apply Kept.drew) | exact HK.out)).1) hn_))))); have n1_ := iE.mk (Kept.then_ (S := (fun k_ => P0_ k_)) (by repeat (first | (with_reducible first | exact HK.out | apply Kept.alloc | apply Kept.drewN | apply Kept.drew) | exact HK.out)) hkp (fun k_ hs_ => (fun e_ => (HO0.out.1 k_ e_.symm)) hs_)); have n2_ := iE.mk (hb); clear HK; clear HB; clear HO0; have HO158 := n0_; have HK := n1_; have HB := n2_; clear n0_ n1_ n2_; (try clear hb); (try clear hkp); (try clear ho0)))
  go_loopg [0, 5] k (fun kq v0 v5 w' => ∃ (x0_1 : List Int) (x5_1 : Int), v5 = .int .i64 x5_1 ∧ iE (stratumref07_Facts.l0 kq x0_1 l1 x5_1 = some r) ∧ iE (kq ≤ k) ∧ iE (Kd.R (Kd.int .u8) 5 w' w0.heap.size (fun k_ => (P0_ k_ ∨ w.heap.size ≤ k_)) v0 x0_1) ∧ iE (Kept w w' (fun k_ => P0_ k_)) ∧ iE (Below w0.heap.size w0 w'))
  case atStart => exact ⟨(t156), (0), (by first | rfl | (simp; done) | (simp [*]; done)), H', ⟨Nat.le_refl _⟩, ⟨by (with_reducible repeat (first | apply Kd.R_alloc | apply Kd.R_drewN | apply Kd.R_drew)); exact HO158.out⟩, ⟨by repeat (first | (with_reducible first | exact HK.out | apply Kept.alloc | apply Kept.drewN | apply Kept.drew) | exact HK.out)⟩, ⟨hb_⟩⟩
  case round =>
    clear H'
    try clear c1
    try clear p2
    obtain ⟨x0_1, x5_1, rfl, HA, HK1, HO_0, HK, HB⟩ := hrel
    cases gk with
    | zero => exact absurd HA.out (by simp [stratumref07_Facts.l0])
    | succ k1 =>
      have H := HA.out
      clear HA
      simp only [stratumref07_Facts.l0] at H
      by_cases c6 : x5_1 < (l1.length : Int)
      · rw [if_pos c6] at H
        have c6b0 : decide (x5_1 < (l1.length : Int)) = true := decide_eq_true c6
        clear c6
        by_cases c7 : 0 ≤ x5_1
        · rw [if_pos c7] at H
          have c7b0 : decide (0 ≤ x5_1) = true := decide_eq_true c7
          clear c7
          replace H := Option.bind_eq_some_iff.mp H
          obtain ⟨t160, A80, H⟩ := H
          replace H : (stratumref07_Facts.l1 k1 t160 l1 x5_1 0) = some r := H
          have A8 := iE.mk A80
          clear A80
          have H' := iE.mk H
          clear H
          have p159 : 0 ≤ (x5_1 : Int) := of_decide_eq_true asm_
          have q159 : x5_1 < (l1.length : Int) := of_decide_eq_true asm_
          obtain ⟨ad159, A159_0, c159_0, e159, hx159_0, hx159_1, hl159_0, hi159_0⟩ := lH (Kd.C_kept_now HR1.out HK.out) x5_1 p159 q159
          cases e159
          have HR159_0 := iE.mk hi159_0
          have HC159_0 := iE.mk hl159_0
          clear hi159_0 hl159_0
          replace p159 := eq_true p159
          replace q159 := eq_true q159
          obtain ⟨Ao9, co9, eo9⟩ := Kd.R_slice HO_0.out
          subst eo9
          go_wp2_with (first | ((with_reducible refine jL (f := 86) rfl ?_); refine lX (some 26) rfl rfl Tryd.func86 (by kernel_rfl) rfl #[.slice Ao9 x0_1.length co9, .int .u64 (IntKind.u64.wrap ((((iY l1 x5_1).f0).length : Int))), .int .i64 1] rfl (by (try simp only [List.map_toArray, List.map_cons, List.map_nil]); first | done | rfl | (simp only [List.length_drop, List.length_take]; rfl)) ?_; (with_reducible refine (stratumref07_Put.calls k1 (fun k_ => some k_ = (.slice Ao9 x0_1.length co9 : Value).ownBlock) (.slice Ao9 x0_1.length co9) x0_1 (IntKind.u64.wrap ((((iY l1 x5_1).f0).length : Int))) 1 t160 w0 _ ?side1 ?side2 A8.out).mono ?_); (case side1 => repeat (first | (with_reducible first | exact HB.out | apply iG | apply iF | apply iH) | exact HB.out)); (case side2 => exact Kd.R_tight rfl HO_0.out); rintro e w10 ⟨v161, rfl, ho0, hb, hkp⟩; refine ⟨_, rfl, ?_⟩; have n0_ := iE.mk (Kd.R_mono (ok' := fun k_ => (P0_ k_ ∨ w.heap.size ≤ k_)) ho0 (fun k_ hk_ => Or.elim hk_ (fun hs_ => (HO_0.out.1 k_ (hs_).symm)) (fun hn_ => (.inr (Nat.le_trans (by first | exact HK.out.1 | exact (show Kept w _ (fun k_ => P0_ k_) from by repeat (first | (with_reducible first | exact HK.out | apply Kept.alloc | apply Kept.drewN | apply Kept.drew) | exact HK.out)).1) hn_))))); have n1_ := iE.mk (Kept.then_ (S := (fun k_ => P0_ k_)) (by repeat (first | (with_reducible first | exact HK.out | apply Kept.alloc | apply Kept.drewN | apply Kept.drew) | exact HK.out)) hkp (fun k_ hs_ => (fun e_ => (HO_0.out.1 k_ e_.symm)) hs_)); have n2_ := iE.mk (hb); clear HK; clear HB; clear HO_0; have HO162 := n0_; have HK := n1_; have HB := n2_; clear n0_ n1_ n2_; (try clear hb); (try clear hkp); (try clear ho0)))
          go_loopg [0, 6] k1 (fun kq v0 v6 w' => ∃ (x0_2 : List Int) (x6_2 : Int), v6 = .int .i64 x6_2 ∧ iE (stratumref07_Facts.l1 kq x0_2 l1 x5_1 x6_2 = some r) ∧ iE (kq ≤ k1) ∧ iE (Kd.R (Kd.int .u8) 5 w' w0.heap.size (fun k_ => (P0_ k_ ∨ w.heap.size ≤ k_)) v0 x0_2) ∧ iE (Kept w w' (fun k_ => P0_ k_)) ∧ iE (Below w0.heap.size w0 w'))
          case atStart => exact ⟨(t160), (0), (by first | rfl | (simp; done) | (simp [*]; done)), H', ⟨Nat.le_refl _⟩, ⟨by (with_reducible repeat (first | apply Kd.R_alloc | apply Kd.R_drewN | apply Kd.R_drew)); exact HO162.out⟩, ⟨by repeat (first | (with_reducible first | exact HK.out | apply Kept.alloc | apply Kept.drewN | apply Kept.drew) | exact HK.out)⟩, ⟨hb_⟩⟩
          case round =>
            clear H'
            try clear c1
            try clear p1
            try clear q1
            try clear hx1
            try clear p2
            try clear c6
            try clear c6b0
            try clear c7
            try clear c7b0
            try clear c8
            try clear hx159_0
            try clear hx159_1
            try clear p159
            try clear p2
            try clear q159
            obtain ⟨x0_2, x6_2, rfl, HA, HK2, HO_0, HK, HB⟩ := hrel
            cases gk with
            | zero => exact absurd HA.out (by simp [stratumref07_Facts.l1])
            | succ k2 =>
              have H := HA.out
              clear HA
              simp only [stratumref07_Facts.l1] at H
              by_cases c11 : 0 ≤ x5_1
              · rw [if_pos c11] at H
                have c11b0 : decide (0 ≤ x5_1) = true := decide_eq_true c11
                clear c11
                by_cases c12 : x5_1 < (l1.length : Int)
                · rw [if_pos c12] at H
                  have c12b0 : decide (x5_1 < (l1.length : Int)) = true := decide_eq_true c12
                  clear c12
                  by_cases c13 : x6_2 < (((iY l1 x5_1).f0).length : Int)
                  · rw [if_pos c13] at H
                    have c13b0 : decide (x6_2 < (((iY l1 x5_1).f0).length : Int)) = true := decide_eq_true c13
                    clear c13
                    by_cases c14 : 0 ≤ x6_2
                    · rw [if_pos c14] at H
                      have c14b0 : decide (0 ≤ x6_2) = true := decide_eq_true c14
                      clear c14
                      replace H := Option.bind_eq_some_iff.mp H
                      obtain ⟨t166, A150, H⟩ := H
                      replace H : (stratumref07_Facts.l1 k2 t166 l1 x5_1 (wrap64 (x6_2 + 1))) = some r := H
                      have A15 := iE.mk A150
                      clear A150
                      have H' := iE.mk H
                      clear H
                      have p163 : 0 ≤ (x5_1 : Int) := of_decide_eq_true asm_
                      have q163 : x5_1 < (l1.length : Int) := of_decide_eq_true asm_
                      obtain ⟨ad163, A163_0, c163_0, e163, hx163_0, hx163_1, hl163_0, hi163_0⟩ := lH (Kd.C_kept_now HR1.out HK.out) x5_1 p163 q163
                      obtain rfl : ad159 = ad163 := (by injection e163)
                      have HR163_0 := iE.mk hi163_0
                      have HC163_0 := iE.mk hl163_0
                      clear hi163_0 hl163_0
                      replace p163 := eq_true p163
                      replace q163 := eq_true q163
                      have p164 : 0 ≤ (x5_1 : Int) := of_decide_eq_true asm_
                      have q164 : x5_1 < (l1.length : Int) := of_decide_eq_true asm_
                      obtain ⟨ad164, A164_0, c164_0, e164, hx164_0, hx164_1, hl164_0, hi164_0⟩ := lH (Kd.C_kept_now HR1.out HK.out) x5_1 p164 q164
                      obtain rfl : ad159 = ad164 := (by injection e164)
                      have HR164_0 := iE.mk hi164_0
                      have HC164_0 := iE.mk hl164_0
                      clear hi164_0 hl164_0
                      replace p164 := eq_true p164
                      replace q164 := eq_true q164
                      have ea_ := Option.some.inj (hx163_0.symm.trans hx164_0)
                      injection ea_ with ea_ en_ ec_
                      subst ea_
                      subst ec_
                      clear en_
                      have p165 : 0 ≤ (x6_2 : Int) := of_decide_eq_true asm_
                      have q165 : x6_2 < (((iY l1 x5_1).f0).length : Int) := of_decide_eq_true asm_
                      obtain ⟨ad165, e165, hx165_0⟩ := Kd.at_int (by repeat (first | (with_reducible exact HR164_0.out) | (with_reducible refine Kd.C_alloc ?_ _) | (with_reducible refine Kd.C_drewN ?_ _) | (with_reducible refine Kd.C_drew ?_) | exact HR164_0.out)) x6_2 p165 q165
                      cases e165
                      replace p165 := eq_true p165
                      replace q165 := eq_true q165
                      obtain ⟨Ao16, co16, eo16⟩ := Kd.R_slice HO_0.out
                      subst eo16
                      go_wp2_with (first | ((with_reducible refine jL (f := 86) rfl ?_); refine lX (some 47) rfl rfl Tryd.func86 (by kernel_rfl) rfl #[.slice Ao16 x0_2.length co16, .int .u64 (IntKind.u64.wrap (rd ((iY l1 x5_1).f0) x6_2)), .int .i64 4] rfl (by (try simp only [List.map_toArray, List.map_cons, List.map_nil]); first | done | rfl | (simp only [List.length_drop, List.length_take]; rfl)) ?_; (with_reducible refine (stratumref07_Put.calls k2 (fun k_ => some k_ = (.slice Ao16 x0_2.length co16 : Value).ownBlock) (.slice Ao16 x0_2.length co16) x0_2 (IntKind.u64.wrap (rd ((iY l1 x5_1).f0) x6_2)) 4 t166 w0 _ ?side1 ?side2 A15.out).mono ?_); (case side1 => repeat (first | (with_reducible first | exact HB.out | apply iG | apply iF | apply iH) | exact HB.out)); (case side2 => exact Kd.R_tight rfl HO_0.out); rintro e w17 ⟨v167, rfl, ho0, hb, hkp⟩; refine ⟨_, rfl, ?_⟩; have n0_ := iE.mk (Kd.R_mono (ok' := fun k_ => (P0_ k_ ∨ w.heap.size ≤ k_)) ho0 (fun k_ hk_ => Or.elim hk_ (fun hs_ => (HO_0.out.1 k_ (hs_).symm)) (fun hn_ => (.inr (Nat.le_trans (by first | exact HK.out.1 | exact (show Kept w _ (fun k_ => P0_ k_) from by repeat (first | (with_reducible first | exact HK.out | apply Kept.alloc | apply Kept.drewN | apply Kept.drew) | exact HK.out)).1) hn_))))); have n1_ := iE.mk (Kept.then_ (S := (fun k_ => P0_ k_)) (by repeat (first | (with_reducible first | exact HK.out | apply Kept.alloc | apply Kept.drewN | apply Kept.drew) | exact HK.out)) hkp (fun k_ hs_ => (fun e_ => (HO_0.out.1 k_ e_.symm)) hs_)); have n2_ := iE.mk (hb); clear HK; clear HB; clear HO_0; have HO168 := n0_; have HK := n1_; have HB := n2_; clear n0_ n1_ n2_; (try clear hb); (try clear hkp); (try clear ho0)))
                      go_roundg k2
                      case measure => have := HK1.out; have := HK2.out; omega
                      case rel => exact ⟨(t166), (wrap64 (x6_2 + 1)), (by first | rfl | (simp; done) | (simp [*]; done)), H', ⟨by have := HK1.out; have := HK2.out; omega⟩, ⟨by (with_reducible repeat (first | apply Kd.R_alloc | apply Kd.R_drewN | apply Kd.R_drew)); exact HO168.out⟩, ⟨by repeat (first | (with_reducible first | exact HK.out | apply Kept.alloc | apply Kept.drewN | apply Kept.drew) | exact HK.out)⟩, ⟨hb_⟩⟩
                    · rw [if_neg c14] at H
                      exact absurd H (by simp)
                  · rw [if_neg c13] at H
                    have c13b0 : decide (x6_2 < (((iY l1 x5_1).f0).length : Int)) = false := decide_eq_false c13
                    clear c13
                    replace H := Option.bind_eq_some_iff.mp H
                    obtain ⟨t170, A180, H⟩ := H
                    replace H : (stratumref07_Facts.l0 k2 t170 l1 (wrap64 (x5_1 + 1))) = some r := H
                    have A18 := iE.mk A180
                    clear A180
                    have H' := iE.mk H
                    clear H
                    have p163 : 0 ≤ (x5_1 : Int) := of_decide_eq_true asm_
                    have q163 : x5_1 < (l1.length : Int) := of_decide_eq_true asm_
                    obtain ⟨ad163, A163_0, c163_0, e163, hx163_0, hx163_1, hl163_0, hi163_0⟩ := lH (Kd.C_kept_now HR1.out HK.out) x5_1 p163 q163
                    obtain rfl : ad159 = ad163 := (by injection e163)
                    have HR163_0 := iE.mk hi163_0
                    have HC163_0 := iE.mk hl163_0
                    clear hi163_0 hl163_0
                    replace p163 := eq_true p163
                    replace q163 := eq_true q163
                    have p169 : 0 ≤ (x5_1 : Int) := of_decide_eq_true asm_
                    have q169 : x5_1 < (l1.length : Int) := of_decide_eq_true asm_
                    obtain ⟨ad169, A169_0, c169_0, e169, hx169_0, hx169_1, hl169_0, hi169_0⟩ := lH (Kd.C_kept_now HR1.out HK.out) x5_1 p169 q169
                    obtain rfl : ad159 = ad169 := (by injection e169)
                    have HR169_0 := iE.mk hi169_0
                    have HC169_0 := iE.mk hl169_0
                    clear hi169_0 hl169_0
                    replace p169 := eq_true p169
                    replace q169 := eq_true q169
                    have ea_ := Option.some.inj (hx163_0.symm.trans hx169_0)
                    injection ea_ with ea_ en_ ec_
                    subst ea_
                    subst ec_
                    clear en_
                    obtain ⟨Ao19, co19, eo19⟩ := Kd.R_slice HO_0.out
                    subst eo19
                    go_wp2_with (first | ((with_reducible refine jL (f := 86) rfl ?_); refine lX (some 55) rfl rfl Tryd.func86 (by kernel_rfl) rfl #[.slice Ao19 x0_2.length co19, .int .u64 (IntKind.u64.wrap ((iY l1 x5_1).f1)), .int .i64 8] rfl (by (try simp only [List.map_toArray, List.map_cons, List.map_nil]); first | done | rfl | (simp only [List.length_drop, List.length_take]; rfl)) ?_; (with_reducible refine (stratumref07_Put.calls k2 (fun k_ => some k_ = (.slice Ao19 x0_2.length co19 : Value).ownBlock) (.slice Ao19 x0_2.length co19) x0_2 (IntKind.u64.wrap ((iY l1 x5_1).f1)) 8 t170 w0 _ ?side1 ?side2 A18.out).mono ?_); (case side1 => repeat (first | (with_reducible first | exact HB.out | apply iG | apply iF | apply iH) | exact HB.out)); (case side2 => exact Kd.R_tight rfl HO_0.out); rintro e w20 ⟨v171, rfl, ho0, hb, hkp⟩; refine ⟨_, rfl, ?_⟩; have n0_ := iE.mk (Kd.R_mono (ok' := fun k_ => (P0_ k_ ∨ w.heap.size ≤ k_)) ho0 (fun k_ hk_ => Or.elim hk_ (fun hs_ => (HO_0.out.1 k_ (hs_).symm)) (fun hn_ => (.inr (Nat.le_trans (by first | exact HK.out.1 | exact (show Kept w _ (fun k_ => P0_ k_) from by repeat (first | (with_reducible first | exact HK.out | apply Kept.alloc | apply Kept.drewN | apply Kept.drew) | exact HK.out)).1) hn_))))); have n1_ := iE.mk (Kept.then_ (S := (fun k_ => P0_ k_)) (by repeat (first | (with_reducible first | exact HK.out | apply Kept.alloc | apply Kept.drewN | apply Kept.drew) | exact HK.out)) hkp (fun k_ hs_ => (fun e_ => (HO_0.out.1 k_ e_.symm)) hs_)); have n2_ := iE.mk (hb); clear HK; clear HB; clear HO_0; have HO172 := n0_; have HK := n1_; have HB := n2_; clear n0_ n1_ n2_; (try clear hb); (try clear hkp); (try clear ho0)))
                    go_roundg k2
                    case measure => have := HK1.out; have := HK2.out; omega
                    case rel => exact ⟨(t170), (wrap64 (x5_1 + 1)), (by first | rfl | (simp; done) | (simp [*]; done)), H', ⟨by have := HK1.out; have := HK2.out; omega⟩, ⟨by (with_reducible repeat (first | apply Kd.R_alloc | apply Kd.R_drewN | apply Kd.R_drew)); exact HO172.out⟩, ⟨by repeat (first | (with_reducible first | exact HK.out | apply Kept.alloc | apply Kept.drewN | apply Kept.drew) | exact HK.out)⟩, ⟨hb_⟩⟩
                · rw [if_neg c12] at H
                  exact absurd H (by simp)
              · rw [if_neg c11] at H
                exact absurd H (by simp)
        · rw [if_neg c7] at H
          exact absurd H (by simp)
      · rw [if_neg c6] at H
        have c6b0 : decide (x5_1 < (l1.length : Int)) = false := decide_eq_false c6
        clear c6
        obtain rfl := Option.some.inj H
        go_wp2
        go_ret
        exact ⟨_, by first | rfl | (simp [iQ, iR] <;> rfl) | (simp [*, iQ, iR] <;> rfl), by (with_reducible repeat (first | apply Kd.R_alloc | apply Kd.R_drewN | apply Kd.R_drew)); exact HO_0.out, hb_, by repeat (first | (with_reducible first | exact HK.out | apply Kept.alloc | apply Kept.drewN | apply Kept.drew) | exact HK.out)⟩
end Go.Proofs.YtbbhjceelghadaaDoor.K
end

section
namespace Go.Proofs.YtbbhjceelghadaaDoor.K
open Go Go.RowKit Go.Proofs.YtbbhjceelghadaaDoorW.PrintWords Go.Proofs.YtbbhjceelghadaaDoorW.PrintLast Go.Proofs.YtbbhjceelghadaaDoorW.PrintMore Go.Proofs.YtbbhjceelghadaaDoor.My
theorem wrap_u64 (x : Int) : IntKind.u64.wrap x = x % 18446744073709551616 := by rfl
theorem RN (x : Int) (m : Nat) (hm : m < 8) : (shr .u64 (IntKind.u64.wrap x) (8 * (m : Int))) % 256 = (x / 256 ^ m) % 256 := by
  rw [wrap_u64]
  have h : m = 0 ∨ m = 1 ∨ m = 2 ∨ m = 3 ∨ m = 4 ∨ m = 5 ∨ m = 6 ∨ m = 7 := by omega
  unfold shr
  rw [show IntKind.u64.bits = 64 from rfl]
  rcases h with rfl | rfl | rfl | rfl | rfl | rfl | rfl | rfl <;> simp <;> omega
theorem nums_append (l m : List UInt8) : nums (l ++ m) = nums l ++ nums m := List.map_append ..
theorem PY (b : UInt8) (l : List UInt8) : nums (b :: l) = (b.toNat : Int) :: nums l := rfl
theorem VM (v : Int) : ((UInt8.ofNat (v % 256).toNat).toNat : Int) = v % 256 := by
  rw [UInt8.toNat_ofNat']
  omega
theorem PZ (x : Int) : ∀ (n : Nat) (l : List Int), n ≤ 8 → l.length + n ≤ 140737488355328 → Ev (fun k => stratumref07_Put.l0 k l (IntKind.u64.wrap x) ((n : Int) - 1)) (l ++ nums (layB x n))
  | 0, l, _, _ => by
    refine Ev.step (f := fun _ => some l) (fun k => by simp only [stratumref07_Put.l0]; rw [if_neg (by omega)]) ?_
    simp only [layB, nums, List.map_nil, List.append_nil]
    exact Ev.now _
  | n + 1, l, hn, hl => by
    have e1 : ((n + 1 : Nat) : Int) - 1 = n := by omega
    have e2 : IntKind.u64.wrap ((n : Nat) : Int) = n := by rw [wrap_u64]; omega
    have e3 : IntKind.u64.wrap (8 * (n : Int)) = 8 * n := by rw [wrap_u64]; omega
    have e4 : wrap64 ((n : Int) - 1) = n - 1 := by unfold wrap64; omega
    rw [e1, layB, PY, VM]
    refine Ev.step (f := fun k => stratumref07_Put.l0 k (l ++ [x / 256 ^ n % 256]) (IntKind.u64.wrap x) ((n : Int) - 1)) (fun k => by simp only [stratumref07_Put.l0]; rw [if_pos (by omega), e2, e3, if_pos (by omega), if_pos (by omega), RN x n (by omega), e4]) ?_
    have := PZ x n (l ++ [x / 256 ^ n % 256]) (by omega) (by rw [List.length_append]; simp only [List.length_cons, List.length_nil]; omega)
    rw [List.append_assoc] at this
    exact this
theorem I4 (x : Int) (n : Nat) (l : List Int) (hn : n ≤ 8) (hl : l.length + n ≤ 140737488355328) : Ev (fun k => stratumref07_Put.f k l (IntKind.u64.wrap x) (n : Int)) (l ++ nums (layB x n)) := by
  unfold stratumref07_Put.f
  rw [show wrap64 ((n : Int) - 1) = n - 1 from by unfold wrap64; omega]
  exact PZ x n l hn hl
theorem QF (l1 : List jK) (i : Int) (h0 : 0 ≤ i) (hlt : i < l1.length) (hn : l1.length ≤ 9223372036854775807) (hk : (iY l1 i).f0.length ≤ 9223372036854775807) (R : List Int)
    (m : Nat) (hR : ∀ l : List Int, l.length + m ≤ 140737488355328 → Ev (fun k => stratumref07_Facts.l0 k l l1 (i + 1)) (l ++ R)) (d : Nat) : ∀ (j : Int) (l : List Int), 0 ≤ j → j ≤ (iY l1 i).f0.length → ((iY l1 i).f0.length : Int) - j = d → l.length + 4 * d + 8 + m ≤ 140737488355328 →
    Ev (fun k => stratumref07_Facts.l1 k l l1 i j) (l ++ nums (((iY l1 i).f0.drop j.toNat).flatMap (layB · 4)) ++ nums (layB (iY l1 i).f1 8) ++ R) := by
  induction d with
  | zero =>
    intro j l g0 g1 hd hl
    rw [drop_end _ j (by omega)]
    refine Ev.step (f := fun k => (stratumref07_Put.f k l (IntKind.u64.wrap (iY l1 i).f1) 8).bind fun t => stratumref07_Facts.l0 k t l1 (i + 1)) (fun k => by simp only [stratumref07_Facts.l1]; rw [if_pos h0, if_pos hlt, if_neg (by omega), pV h0 hlt hn]) ?_
    simp only [List.flatMap_nil, nums, List.map_nil, List.append_nil]
    exact Ev.bind (I4 _ 8 l (by omega) (by omega)) (hR _ (by rw [List.length_append, lY, iU]; omega))
  | succ d ih =>
    intro j l g0 g1 hd hl
    have hj : j < ((iY l1 i).f0.length : Int) := by omega
    rw [OO 0 _ j (by omega) g0, List.flatMap_cons, nums_append, ← List.append_assoc l]
    refine Ev.step (f := fun k => (stratumref07_Put.f k l (IntKind.u64.wrap (rd (iY l1 i).f0 j)) 4).bind fun t => stratumref07_Facts.l1 k t l1 i (j + 1)) (fun k => by simp only [stratumref07_Facts.l1]; rw [if_pos h0, if_pos hlt, if_pos hj, if_pos g0, pV g0 hj hk]) ?_
    exact Ev.bind (I4 _ 4 l (by omega) (by omega)) (ih (j + 1) _ (by omega) (by omega) (by omega) (by rw [List.length_append, lY, iU]; omega))
theorem MP (l1 : List jK) (hn : l1.length ≤ 9223372036854775807) (hk : ∀ f ∈ l1, f.f0.length ≤ 9223372036854775807) (d : Nat) : ∀ (i : Int) (l : List Int), 0 ≤ i → i ≤ l1.length → (l1.length : Int) - i = d → l.length + ((l1.drop i.toNat).flatMap mW).length ≤ 140737488355328 →
    Ev (fun k => stratumref07_Facts.l0 k l l1 i) (l ++ nums ((l1.drop i.toNat).flatMap mW)) := by
  induction d with
  | zero =>
    intro i l h0 h1 hd hl
    rw [drop_end _ i (by omega)]
    refine Ev.step (f := fun _ => some l) (fun k => by simp only [stratumref07_Facts.l0]; rw [if_neg (by omega)]) ?_
    simp only [List.flatMap_nil, nums, List.map_nil, List.append_nil]
    exact Ev.now _
  | succ d ih =>
    intro i l h0 h1 hd hl
    have hlt : i < (l1.length : Int) := by omega
    have hm : iY l1 i ∈ l1 := by
      unfold iY
      rw [List.getD_eq_getElem?_getD, List.getElem?_eq_getElem (show i.toNat < l1.length by omega)]
      exact List.getElem_mem _
    rw [OO z76 l1 i (by omega) h0, List.flatMap_cons, show l1.getD i.toNat z76 = iY l1 i from rfl] at hl ⊢
    rw [List.length_append, rO] at hl
    rw [nums_append]
    refine Ev.step (f := fun k => (stratumref07_Put.f k l (IntKind.u64.wrap ((iY l1 i).f0.length : Int)) 1).bind fun t => stratumref07_Facts.l1 k t l1 i 0) (fun k => by simp only [stratumref07_Facts.l0]; rw [if_pos hlt, if_pos h0]) ?_
    have hr := QF l1 i h0 hlt hn (hk _ hm) (nums ((l1.drop (i + 1).toNat).flatMap mW)) ((l1.drop (i + 1).toNat).flatMap mW).length (fun t ht => ih (i + 1) t (by omega) (by omega) (by omega) ht) (iY l1 i).f0.length 0 (l ++ nums (layB ((iY l1 i).f0.length : Int) 1)) (by omega) (by omega) (by omega) (by rw [List.length_append, lY, iU]; omega)
    have e : l ++ (nums (mW (iY l1 i)) ++ nums ((l1.drop (i + 1).toNat).flatMap mW)) = l ++ nums (layB ((iY l1 i).f0.length : Int) 1) ++ nums (((iY l1 i).f0.drop (0 : Int).toNat).flatMap (layB · 4)) ++ nums (layB (iY l1 i).f1 8) ++ nums ((l1.drop (i + 1).toNat).flatMap mW) := by
      unfold mW
      rw [nums_append, nums_append]
      simp only [List.append_assoc]
      rfl
    rw [e]
    exact Ev.bind (I4 _ 1 l (by omega) (by omega)) hr
theorem OG (l1 : List jK) : (kH l1).length = 4 + (l1.flatMap mW).length := by unfold kH; rw [List.length_append, iU]
theorem UJ (l1 : List jK) : 9 * l1.length ≤ (l1.flatMap mW).length ∧ ∀ f ∈ l1, 4 * f.f0.length ≤ (l1.flatMap mW).length := by
  induction l1 with
  | nil => exact ⟨by simp, fun f h => by cases h⟩
  | cons x l ih =>
    rw [List.flatMap_cons, List.length_append, rO, List.length_cons]
    refine ⟨by omega, fun f hf => ?_⟩
    rcases List.mem_cons.1 hf with rfl | hf
    · omega
    · have := ih.2 f hf; omega
theorem vV (l1 : List jK) (l : List Int) (hl : l.length + (kH l1).length ≤ 140737488355328) : Ev (fun k => stratumref07_Facts.f k l l1) (l ++ nums (kH l1)) := by
  rw [OG] at hl
  have hg := UJ l1
  unfold kH
  rw [nums_append, ← List.append_assoc]
  exact Ev.bind (I4 (l1.length : Int) 4 l (by omega) (by omega)) (MP l1 (by omega) (fun f hf => by have := hg.2 f hf; omega) l1.length 0 _ (by omega) (by omega) (by omega) (by rw [List.length_append, lY, iU]; show _ + (l1.flatMap mW).length ≤ _; omega))
end Go.Proofs.YtbbhjceelghadaaDoor.K
end

section
namespace Go.Proofs.YtbbhjceelghadaaDoor.K
open Go Go.RowKit Go.Proofs.YtbbhjceelghadaaDoorW.PrintWords Go.Proofs.YtbbhjceelghadaaDoorW.PrintLast Go.Proofs.YtbbhjceelghadaaDoorW.PrintMore Go.Proofs.YtbbhjceelghadaaDoor.My
/-- What a call that lays bytes behind a row leaves. -/
def LG (P0 : Nat → Prop) (r : List Int) (w0 w : World) (e : Ending) (w' : World) : Prop :=
  ∃ v' : Value, e = .returned v' ∧ Kd.R (Kd.int .u8) 5 w' w0.heap.size (fun k => P0 k ∨ w.heap.size ≤ k) v' r ∧ Below w0.heap.size w0 w' ∧ Kept w w' P0
theorem MF (P0 : Nat → Prop) (v : Value) (l : List Int) (x X : Int) (n : Nat) (nI : Int) (w0 w : World) (hX : X = IntKind.u64.wrap x) (hI : nI = n) (hn : n ≤ 8) (hl : l.length + n ≤ 140737488355328) (hB : Below w0.heap.size w0 w) (ho : Kd.R (Kd.int .u8) 5 w w0.heap.size P0 v l) :
    Calls Tryd.prog 86 #[v, .int .u64 X, .int .i64 nI] w (LG P0 (l ++ nums (layB x n)) w0 w) := by
  subst hI; subst hX
  obtain ⟨k, hk⟩ := (I4 x n l hn hl).rounds
  exact stratumref07_Put.calls k P0 v l _ _ _ w0 w hB ho hk
theorem NW (P0 : Nat → Prop) (v : Value) (l : List Int) (A1 : Option Addr) (c1 : Nat) (l1 : List jK) (w0 w : World) (hl : l.length + (kH l1).length ≤ 140737488355328) (hB : Below w0.heap.size w0 w) (ho : Kd.R (Kd.int .u8) 5 w w0.heap.size P0 v l) (hr1 : ∀ W_, Kept w W_ (fun k_ => P0 k_) → Kd.C k76 W_ A1 l1.length l1) (hc1 : l1.length ≤ c1) :
    Calls Tryd.prog 88 #[v, .slice A1 l1.length c1] w (LG P0 (l ++ nums (kH l1)) w0 w) := by
  obtain ⟨k, hk⟩ := (vV l1 l hl).rounds
  exact stratumref07_Facts.calls k P0 v l A1 c1 l1 _ w0 w hB ho hr1 hc1 hk
theorem yC (l : List jF) (k : Nat) (h : k < l.length) : (l.take (k + 1)).flatMap lG = (l.take k).flatMap lG ++ (layB (iO l k).f0 4 ++ kH (iO l k).f1) := by
  rw [nC z124 l k h, List.flatMap_append]
  congr 1
  simp only [List.flatMap_cons, List.flatMap_nil, List.append_nil]
  rfl
theorem PX (l : List jF) (k : Nat) (h : k < l.length) : ((l.take k).flatMap lG).length + 4 + (kH (iO l k).f1).length ≤ (l.flatMap lG).length := by
  have e : l = l.take (k + 1) ++ l.drop (k + 1) := (List.take_append_drop _ _).symm
  conv => rhs; rw [e]
  rw [List.flatMap_append, yC l k h]
  simp only [List.length_append, iU]
  omega
theorem uV (l : List jF) : (jR l).length = 4 + (l.flatMap lG).length := by unfold jR; rw [List.length_append, iU]
theorem JP (l : List jF) : l.length ≤ (jR l).length := by
  rw [uV]
  induction l with
  | nil => simp
  | cons e l ih =>
    rw [List.flatMap_cons, List.length_append, List.length_cons]
    have : 4 ≤ (lG e).length := by unfold lG; rw [List.length_append, iU]; omega
    omega
set_option maxRecDepth 20000 in
set_option maxHeartbeats 4000000 in
theorem IM (P0 : Nat → Prop) (v : Value) (l0 : List Int) (A1 : Option Addr) (c1 : Nat) (l1 : List jF) (w0 w : World) (hl : l0.length + (jR l1).length ≤ 140737488355328) (hB : Below w0.heap.size w0 w) (ho : Kd.R (Kd.int .u8) 5 w w0.heap.size P0 v l0) (hP : ∀ k, P0 k → w0.heap.size ≤ k) (hr1 : Kd.C k124 w0 A1 l1.length l1) (hc1 : l1.length ≤ c1) :
    Calls Tryd.prog 89 #[v, .slice A1 l1.length c1] w (LG P0 (l0 ++ nums (jR l1)) w0 w) := by
  have HO := iE.mk (show Kd.R (Kd.int .u8) 5 w w0.heap.size (fun k => P0 k ∨ w.heap.size ≤ k) v l0 from Kd.R_mono ho (fun _ h => .inl h))
  have HR := iE.mk hr1
  have HP := iE.mk (show ∀ k, (P0 k ∨ w.heap.size ≤ k) → w0.heap.size ≤ k from fun k h => h.elim (hP k) (Nat.le_trans hB.size))
  have HB := iE.mk hB
  have HL := iE.mk hl
  have HK := iE.mk (Kept.refl w P0)
  have hge := JP l1
  have hmax : l1.length ≤ 140737488355328 := by omega
  rw [uV] at hl
  clear hr1 hB ho hge hP
  obtain ⟨Ao, co, rfl⟩ := Kd.R_slice HO.out
  go_enter Tryd.func89, Tryd.ntmps89
  go_wp2_with fail
  refine (MF _ _ l0 (l1.length : Int) _ 4 4 w0 _ (by rw [wrap_u64]; omega) rfl (by omega) (by omega) HB.out HO.out).mono ?_
  rintro e w1 ⟨v1, rfl, ho1, hb1, hk1⟩
  have HO1 := iE.mk (Kd.R_mono (ok' := fun k => P0 k ∨ w.heap.size ≤ k) ho1 (fun k h => h.elim id .inr))
  have HB1 := iE.mk hb1
  have HK1 := iE.mk (HK.out.then_ hk1 (fun _ h => h))
  clear ho1 hb1 hk1
  go_wp2_with fail
  go_loopg [0, 5] l1.length (fun gg s0 s5 wr => ∃ k : Nat, k ≤ l1.length ∧ l1.length - k ≤ gg ∧ s5 = .int .i64 k ∧ iE (Kd.R (Kd.int .u8) 5 wr w0.heap.size (fun k => P0 k ∨ w.heap.size ≤ k) s0 (l0 ++ nums (layB (l1.length : Int) 4) ++ nums ((l1.take k).flatMap lG))) ∧ iE (Below w0.heap.size w0 wr) ∧ iE (Kept w wr P0))
  case atStart => exact ⟨0, Nat.zero_le _, by omega, rfl, ⟨by simpa [nums] using HO1.out⟩, HB1, HK1⟩
  case round =>
    clear HO1 HB1 HK1 HO HB HK
    obtain ⟨k, hk, hg, rfl, HO, HB, HK⟩ := hrel
    obtain ⟨Ao, co, rfl⟩ := Kd.R_slice HO.out
    by_cases hlt : k < l1.length
    · have hln := PX l1 k hlt
      have HT := iE.mk (yC l1 k hlt)
      obtain ⟨L, hL⟩ : ∃ L, L = l0 ++ nums (layB (l1.length : Int) 4) ++ nums ((l1.take k).flatMap lG) := ⟨_, rfl⟩
      have hLl : L.length + 4 + (kH (iO l1 k).f1).length ≤ 140737488355328 := by rw [hL]; simp only [List.length_append, lY, iU]; omega
      rw [← hL] at HO ⊢
      have HLq := iE.mk hL
      clear hL hln
      obtain ⟨ad, A', c', eA, gx0, gx1, hl', hC'⟩ := kG HR.out k (by omega) (by omega)
      cases eA
      simp only [Int.toNat_natCast] at gx0 gx1
      have hx0 := kQ HB.out gx0
      have hx1 := kQ HB.out gx1
      have HC' := iE.mk hC'
      have HG := iE.mk (And.intro gx0 gx1)
      clear hC' gx0 gx1
      have hcall := MF (fun k => P0 k ∨ w.heap.size ≤ k) (.slice Ao L.length co) L (iO l1 k).f0 (IntKind.u64.wrap (iO l1 k).f0) 4 4 w0 wr rfl rfl (by omega) (by omega) HB.out HO.out
      go_wp2_with fail
      go_at_call 86
      (with_reducible refine hcall.mono ?_)
      clear hcall
      rintro e w2 ⟨v2, rfl, ho2, hb2, hk2⟩
      have HO2 := iE.mk (Kd.R_mono (ok' := fun k => P0 k ∨ w.heap.size ≤ k) ho2 (fun k h => h.elim id (fun h => .inr (Nat.le_trans HK.out.1 h))))
      have HB2 := iE.mk hb2
      have HK2 := iE.mk (HK.out.then_ hk2 (fun _ h => h))
      clear ho2 hb2 hk2 hx0 hx1
      have hx0 := kQ HB2.out HG.out.1
      have hx1 := kQ HB2.out HG.out.2
      obtain ⟨Ao2, co2, rfl⟩ := Kd.R_slice HO2.out
      have hlen2 : (L ++ nums (layB (iO l1 k).f0 4)).length + (kH (iO l1 k).f1).length ≤ 140737488355328 := by rw [List.length_append, lY, iU]; omega
      have HE := iE.mk (show (L ++ nums (layB (iO l1 k).f0 4)) ++ nums (kH (iO l1 k).f1) = l0 ++ nums (layB (l1.length : Int) 4) ++ nums ((l1.take (k + 1)).flatMap lG) from by rw [HT.out, HLq.out, nums_append, nums_append]; simp only [List.append_assoc])
      generalize (L ++ nums (layB (iO l1 k).f0 4)) = L2 at *
      have hcall := NW (fun k => P0 k ∨ w.heap.size ≤ k) (.slice Ao2 L2.length co2) L2 A' c' (iO l1 k).f1 w0 w2 hlen2 HB2.out HO2.out (Kd.C_kept_came vG HC'.out HB2.out HP.out) hl'
      go_wp2_with fail
      go_at_call 88
      (with_reducible refine hcall.mono ?_)
      clear hcall
      rintro e w3 ⟨v3, rfl, ho3, hb3, hk3⟩
      have HO3 := iE.mk (Kd.R_mono (ok' := fun k => P0 k ∨ w.heap.size ≤ k) ho3 (fun k h => h.elim id (fun h => .inr (Nat.le_trans HK2.out.1 h))))
      have HB3 := iE.mk hb3
      have HK3 := iE.mk (HK2.out.then_ hk3 (fun _ h => h))
      clear ho3 hb3 hk3 hx0 hx1
      go_wp2_with fail
      go_roundg (l1.length - (k + 1))
      case measure => omega
      case rel => exact ⟨k + 1, by omega, by omega, by go_num, ⟨by rw [← HE.out]; exact HO3.out⟩, HB3, HK3⟩
    · have : k = l1.length := by omega
      subst this
      have HE := iE.mk (show l0 ++ nums (layB (l1.length : Int) 4) ++ nums ((l1.take l1.length).flatMap lG) = l0 ++ nums (jR l1) from by rw [List.take_length, List.append_assoc, ← nums_append]; rfl)
      go_wp2
      go_ret
      exact ⟨_, rfl, by rw [← HE.out]; exact HO.out, HB.out, HK.out⟩
/-- In the shape of the printed callers: behind nothing (pk.sh writes 'calls0' for 'calls _ _ ([] : List Int)' in the printed texts). -/
def stratumref07_Entries.f (l0 : List Int) (l1 : List jF) : Option (List Int) := if l0 = [] ∧ (jR l1).length ≤ 140737488355328 then some (nums (jR l1)) else none
theorem stratumref07_Entries.calls0 (A1 : Option Addr) (c1 : Nat) (l1 : List jF) (r : List Int) (w : World) (_hr0 : Kd.C (Kd.int .u8) w none ([] : List Int).length []) (_hc0 : 0 ≤ 0) (hr1 : Kd.C k124 w A1 l1.length l1) (hc1 : l1.length ≤ c1) (h : stratumref07_Entries.f ([] : List Int) l1 = some r) :
    Calls Tryd.prog 89 #[.slice none 0 0, .slice A1 l1.length c1] w fun e w' => ∃ v0_ : Value, e = .returned (v0_) ∧ Kd.R (Kd.int .u8) 5 w' w.heap.size (fun _ => True) v0_ r ∧ Below w.heap.size w w' := by
  unfold stratumref07_Entries.f at h
  split at h
  case isFalse => cases h
  rename_i hl
  obtain rfl := Option.some.inj h
  refine (IM (fun _ => False) (.slice none 0 0) [] A1 c1 l1 w w (by simpa using hl.2) (Below.refl _ _) (Kd.R_nil _ _ _ _ _) (fun _ h => h.elim) hr1 hc1).mono ?_
  rintro e w' ⟨v', rfl, h1, h2, _⟩
  exact ⟨v', rfl, Kd.R_mono h1 (fun _ _ => trivial), h2⟩
end Go.Proofs.YtbbhjceelghadaaDoor.K
end

section
namespace Go.Proofs.YtbbhjceelghadaaDoor.K
open Go Go.RowKit Go.Proofs.YtbbhjceelghadaaDoorW.PrintWords Go.Proofs.YtbbhjceelghadaaDoorW.PrintLast Go.Proofs.YtbbhjceelghadaaDoorW.PrintMore Go.Proofs.YtbbhjceelghadaaDoor.My
theorem JC {w : World} {A4 A9 : Option Addr} {l3 : List Int} {l4 : List jK} {l6 : List jW} {l9 : List jF} {A3 A6 : Option Addr} (h3 : Kd.C (Kd.int .i64) w A3 l3.length l3) (h4 : Kd.C k76 w A4 l4.length l4) (h6 : Kd.C k132 w A6 l6.length l6) (h9 : Kd.C k124 w A9 l9.length l9) : TK l3 l4 l6 l9 := by
  have key : ∀ {A : Option Addr} {l : List jK}, Kd.C k76 w A l.length l → ∀ f ∈ l, f.f0.length ≤ 9223372036854775807 := by
    intro A l h f hf
    obtain ⟨i, hi, rfl⟩ := List.getElem_of_mem hf
    obtain ⟨_, _, _, _, _, _, _, hC⟩ := lH h i (by omega) (by omega)
    have e : iY l i = l[i] := by unfold iY; rw [Int.toNat_natCast, List.getD_eq_getElem?_getD, List.getElem?_eq_getElem hi]; rfl
    rw [e] at hC
    exact lK hC
  refine ⟨lK h3, lK h4, key h4, lK h6, lK h9, fun e he => ?_⟩
  obtain ⟨i, hi, rfl⟩ := List.getElem_of_mem he
  obtain ⟨_, _, _, _, _, _, _, hC⟩ := kG h9 i (by omega) (by omega)
  have e : iO l9 i = l9[i] := by unfold iO; rw [Int.toNat_natCast, List.getD_eq_getElem?_getD, List.getElem?_eq_getElem hi]; rfl
  rw [e] at hC
  exact ⟨lK hC, key hC⟩
section
variable (a1 a2 : Int) (A3 : Option Addr) (c3 : Nat) (l3 : List Int) (A4 : Option Addr) (c4 : Nat) (l4 : List jK) (a5 : Int) (A6 : Option Addr) (c6 : Nat) (l6 : List jW) (a7 a8 : Int) (A9 : Option Addr) (c9 : Nat) (l9 : List jF) (w : World)
    (h3 : Kd.C (Kd.int .i64) w A3 l3.length l3) (d3 : l3.length ≤ c3) (h4 : Kd.C k76 w A4 l4.length l4) (d4 : l4.length ≤ c4) (h6 : Kd.C k132 w A6 l6.length l6) (d6 : l6.length ≤ c6) (h9 : Kd.C k124 w A9 l9.length l9) (d9 : l9.length ≤ c9)
include h3 d3 h4 d4 h6 d6 h9 d9
end
end Go.Proofs.YtbbhjceelghadaaDoor.K
end

section
namespace Go.Proofs.YtbbhjceelghadaaDoor.K
open Go Go.RowKit Go.Proofs.YtbbhjceelghadaaDoorW.PrintWords Go.Proofs.YtbbhjceelghadaaDoorW.PrintLast Go.Proofs.YtbbhjceelghadaaDoorW.PrintMore Go.Proofs.YtbbhjceelghadaaDoor.My
/-- What reading panics with. -/
def yF : List PanicEntry := [{ v := .iface 173 (.agg #[]), recovered := false }]
/-- A reader in block g, with the bytes l left; they lie in w0. -/
def Rd (w0 w : World) (g : Nat) (l : List UInt8) : Prop := ∃ A c, w.heap[g]? = some (.cells #[.slice A l.length c] 176 (0, 0)) ∧ l.length ≤ c ∧ kb.C w0 A l.length l
theorem Rd.grown {w0 w w' : World} {g : Nat} {l : List UInt8} (h : Rd w0 w g l) {row : Option Nat} (hg : w.grownBy w' row) (hne : some g ≠ row) : Rd w0 w' g l := by
  obtain ⟨A, c, hb, hc, hC⟩ := h
  exact ⟨A, c, (hg.block g (kL hb) hne).trans hb, hc, hC⟩
theorem Rd.lt {w0 w : World} {g : Nat} {l : List UInt8} (h : Rd w0 w g l) : g < w.heap.size := by
  obtain ⟨A, c, hb, _⟩ := h
  exact kL hb
theorem N7 (w : World) (row : Option Nat) : w.grownBy w row := ⟨rfl, rfl, rfl, Nat.le_refl _, fun _ _ _ => rfl⟩
theorem jB {a w w' : World} {row : Option Nat} (h : a.grownBy w row) (k : w.grownBy w' row) : a.grownBy w' row :=
  ⟨k.os.trans h.os, k.tape.trans h.tape, k.output.trans h.output, Nat.le_trans h.size k.size, fun i hi hne => (k.block i (Nat.lt_of_lt_of_le hi h.size) hne).trans (h.block i hi hne)⟩
theorem IK (w : World) (g i : Nat) (v : Value) : w.grownBy (w.setCell ⟨g, i, none⟩ v) (some g) :=
  ⟨rfl, rfl, rfl, by simp [World.setCell], fun k _ hne => Below.heap_setCell _ _ _ _ (fun e => hne (by rw [e]))⟩
theorem grown_below {w w' : World} {row : Option Nat} (h : Below w.heap.size w w') : w.grownBy w' row := ⟨h.os, h.tape, h.output, h.size, fun k hk _ => h.block k hk⟩
theorem below_grown {B : Nat} {w0 w w' : World} {g : Nat} (h : Below B w0 w) (hg : w.grownBy w' (some g)) (hB : B ≤ g) (h0 : B ≤ w0.heap.size) : Below B w0 w' :=
  ⟨hg.os.trans h.os, hg.tape.trans h.tape, hg.output.trans h.output, Nat.le_trans h.size hg.size, fun k hk => (hg.block k (by have := h.size; omega) (fun e => by injection e with e; omega)).trans (h.block k hk)⟩
theorem xP (l : List UInt8) (k : Nat) (h : k < l.length) : numB (l.take (k + 1)) = numB (l.take k) * 256 + (l.getD k 0).toNat := by
  rw [nC 0 l k h, PR]
theorem J6 (l : List UInt8) (k : Nat) (h : k ≤ 7) : numB (l.take k) < 72057594037927936 := by
  have h1 := zK (l.take k)
  have h2 : (l.take k).length ≤ 7 := by rw [List.length_take]; omega
  have h3 : 256 ^ (l.take k).length ≤ 256 ^ 7 := Nat.pow_le_pow_right (by decide) h2
  have h4 : 256 ^ 7 = 72057594037927936 := by decide
  omega
theorem UD (n : Nat) (c : UInt8) (h : n < 72057594037927936) : bits .or .u64 ((n : Int) * 256) (c.toNat : Int) = ((n * 256 + c.toNat : Nat) : Int) := by
  have hc := c.toNat_lt
  rw [show ((n : Int) * 256) = ((n * 256 : Nat) : Int) by omega, u64_or_nat _ _ (by omega) (by omega)]
  congr 1
  have := Nat.shiftLeft_add_eq_or_of_lt (i := 8) (show c.toNat < 2 ^ 8 by omega) n
  rw [Nat.shiftLeft_eq] at this
  exact this.symm
set_option maxHeartbeats 2000000 in
theorem mM (s : Nat) (S : Int) (hS : S = s) (hs8 : s ≤ 8) (g : Nat) (l : List UInt8) (w0 w : World) (h : Rd w0 w g l) (hb : Below w0.heap.size w0 w) (hl : s ≤ l.length) :
    Calls Tryd.prog 141 #[.pointer (some ⟨g, 0, none⟩), .int .i64 S] w fun e w' => e = .returned (.int .u64 (numB (l.take s) : Int)) ∧ Rd w0 w' g (l.drop s) ∧ w.grownBy w' (some g) := by
  subst hS
  obtain ⟨A, c, hblk, hc, hC⟩ := h
  have HBL := iE.mk hblk
  have HB := iE.mk hb
  have hm := lK hC
  have HC := iE.mk hC
  have z0 : w.cell? ⟨g, 0, none⟩ = some (.slice A l.length c) := (iD hblk 0).trans rfl
  have f0 : w.frozen? ⟨g, 0, none⟩ = false := iC hblk 0
  have hcut := VN A l.length c s (s : Int) rfl hl hc
  obtain ⟨A2, hcut2, hC2⟩ := VR hC hc s (s : Int) rfl hl
  have HC2 := iE.mk hC2
  have hnot : ¬ (l.length : Int) < (s : Int) := by omega
  clear hblk hb hC hC2
  go_enter Tryd.func141, Tryd.ntmps141
  go_wp2
  go_loop [5, 24] (fun n i => ∃ k : Nat, k ≤ s ∧ i = .int .i64 k ∧ n = .int .u64 (numB (l.take k) : Int)) (fun _ i => s - (intOf i).toNat)
  case atStart => exact ⟨0, Nat.zero_le _, rfl, rfl⟩
  case round =>
    obtain ⟨k, hk, rfl, rfl⟩ := hrel
    by_cases hlt : k < s
    · obtain ⟨ad, rfl, hx⟩ := C_at (Kd.C_below HC.out HB.out) k (by omega)
      have hsn := iE.mk (xP l k (by omega))
      have hn := J6 l k (by omega)
      generalize l.getD k 0 = cb at hx hsn
      have HOR := iE.mk (UD (numB (l.take k)) cb hn)
      obtain ⟨n, hnn⟩ : ∃ n, n = numB (l.take k) := ⟨_, rfl⟩
      rw [← hnn] at hn HOR hsn ⊢
      clear hnn
      have hnI : (n : Int) < 72057594037927936 := by omega
      clear hn
      have hcb := cb.toNat_lt
      go_wp2
      go_round
      case rel => exact ⟨k + 1, by omega, by go_num, by rw [hsn.out, ← HOR.out]⟩
      case measure => simp [intOf]; omega
    · obtain rfl : k = s := by omega
      go_wp2
      go_ret
      refine ⟨rfl, ⟨A2, c - k, ?_, by rw [List.length_drop]; omega, ?_⟩, IK _ _ _ _⟩
      · rw [List.length_drop]
        exact (Lib.heap_setCell_same HBL.out _).trans rfl
      · rw [List.length_drop]
        exact HC2.out
set_option maxHeartbeats 1000000 in
theorem jZ (s : Nat) (S : Int) (hS : S = s) (g : Nat) (l : List UInt8) (w0 w : World) (h : Rd w0 w g l) (hl : l.length < s) :
    Calls Tryd.prog 141 #[.pointer (some ⟨g, 0, none⟩), .int .i64 S] w fun e w' => e = .panicked yF ∧ w.grownBy w' (some g) := by
  subst hS
  obtain ⟨A, c, hblk, hc, hC⟩ := h
  have hm := lK hC
  have z0 : w.cell? ⟨g, 0, none⟩ = some (.slice A l.length c) := (iD hblk 0).trans rfl
  have f0 : w.frozen? ⟨g, 0, none⟩ = false := iC hblk 0
  have hyes : (l.length : Int) < (s : Int) := by omega
  clear hblk hC
  go_enter Tryd.func141, Tryd.ntmps141
  go_wp2
  exact ⟨rfl, rfl, N7 _ _⟩
theorem mX {s : Nat} {l l' : List UInt8} {n : Nat} (h : number s l = some (n, l')) : s ≤ l.length ∧ n = numB (l.take s) ∧ l' = l.drop s := by
  unfold number at h
  split at h
  · cases h
  · injection h with h
    injection h with h1 h2
    exact ⟨by omega, h1.symm, h2.symm⟩
theorem qR {s : Nat} {l : List UInt8} (h : number s l = none) : l.length < s := by
  unfold number at h
  split at h
  · assumption
  · cases h
theorem LU (a b : Nat) (h : a ≤ 9223372036854775807) : wrap64 ((a : Int) / (b : Int)) = (a : Int) / (b : Int) ∧ IntKind.u64.wrap ((a : Int) / (b : Int)) = (a : Int) / (b : Int) := by
  rw [← Int.natCast_ediv]
  have h1 : a / b ≤ a := Nat.div_le_self _ _
  generalize a / b = q at h1 ⊢
  constructor
  · unfold wrap64; omega
  · rw [IntKind.wrap_u64]; omega
set_option maxHeartbeats 2000000 in
theorem xA (s least : Nat) (S T : Int) (hS : S = s) (hT : T = least) (hs8 : s ≤ 8) (h1 : 1 ≤ least) (g : Nat) (l l' : List UInt8) (n : Nat) (w0 w : World) (h : Rd w0 w g l) (hb : Below w0.heap.size w0 w) (hg : w0.heap.size ≤ g) (hl : many s least l = some (n, l')) :
    Calls Tryd.prog 151 #[.pointer (some ⟨g, 0, none⟩), .int .i64 S, .int .i64 T] w fun e w' => e = .returned (.int .i64 (n : Int)) ∧ Rd w0 w' g l' ∧ w.grownBy w' (some g) ∧ n * least ≤ l'.length := by
  subst hT
  unfold many at hl
  obtain ⟨⟨m, r⟩, hn, hl⟩ := Option.bind_eq_some_iff.1 hl
  simp only at hl
  split at hl
  · cases hl
  injection hl with hl
  injection hl with e1 e2
  subst e1; subst e2
  rename_i hle
  obtain ⟨hsl, hm, hr⟩ := mX hn
  have hle' : m * least ≤ r.length := by
    have : m ≤ r.length / least := by omega
    exact (Nat.le_div_iff_mul_le (by omega)).1 this
  have hmd : ¬ ((r.length : Int) / (least : Int)) < (m : Int) := by
    rw [← Int.natCast_ediv]
    omega
  have hcall := mM s S hS hs8 g l w0 w h hb hsl
  rw [← hm, ← hr] at hcall
  have HLE := iE.mk hle'
  clear hn hm hr hle hle' h hb hsl hS
  have hl1 : (1 : Int) ≤ (least : Int) := by omega
  go_enter Tryd.func151, Tryd.ntmps151
  go_wp2_with (go_at_call 141; refine hcall.mono ?_; rintro e w1 ⟨rfl, hR, hG⟩; obtain ⟨A1, c1, hblk, hc1, hC1⟩ := hR; have HBL := iE.mk hblk; have HC1 := iE.mk hC1; have hm1 := lK hC1; have z0 : w1.cell? ⟨g, 0, none⟩ = some (.slice A1 r.length c1) := (iD hblk 0).trans rfl; clear hblk hC1; obtain ⟨hq1, hq2⟩ := LU r.length least hm1; have hmr : (m : Int) ≤ 9223372036854775807 := by (have := HLE.out; have := Nat.le_mul_of_pos_right m (show 0 < least by omega); omega))
  go_ret
  exact ⟨rfl, ⟨A1, c1, HBL.out, hc1, HC1.out⟩, hG, HLE.out⟩
set_option maxHeartbeats 2000000 in
theorem oM (s least : Nat) (S T : Int) (hS : S = s) (hT : T = least) (hs8 : s ≤ 8) (h1 : 1 ≤ least) (g : Nat) (l : List UInt8) (w0 w : World) (h : Rd w0 w g l) (hb : Below w0.heap.size w0 w) (hg : w0.heap.size ≤ g) (hl : many s least l = none) :
    Calls Tryd.prog 151 #[.pointer (some ⟨g, 0, none⟩), .int .i64 S, .int .i64 T] w fun e w' => e = .panicked yF ∧ w.grownBy w' (some g) := by
  subst hT
  unfold many at hl
  cases hn : number s l with
  | none =>
    have hcall := jZ s S hS g l w0 w h (qR hn)
    clear hn hl h hb hS
    go_enter Tryd.func151, Tryd.ntmps151
    go_wp2_with (go_at_call 141; refine hcall.mono ?_; rintro e w1 ⟨rfl, hG⟩)
    exact ⟨rfl, rfl, hG⟩
  | some x =>
    obtain ⟨m, r⟩ := x
    rw [hn] at hl
    simp only [Option.bind_some] at hl
    split at hl
    · rename_i hgt
      obtain ⟨hsl, hm, hr⟩ := mX hn
      have hmd : ((r.length : Int) / (least : Int)) < (m : Int) := by
        rw [← Int.natCast_ediv]
        omega
      have hcall := mM s S hS hs8 g l w0 w h hb hsl
      rw [← hm, ← hr] at hcall
      clear hn hm hr hgt h hb hsl hS hl
      have hl1 : (1 : Int) ≤ (least : Int) := by omega
      go_enter Tryd.func151, Tryd.ntmps151
      go_wp2_with (go_at_call 141; refine hcall.mono ?_; rintro e w1 ⟨rfl, hR, hG⟩; obtain ⟨A1, c1, hblk, hc1, hC1⟩ := hR; have hm1 := lK hC1; have z0 : w1.cell? ⟨g, 0, none⟩ = some (.slice A1 r.length c1) := (iD hblk 0).trans rfl; clear hblk hC1; obtain ⟨hq1, hq2⟩ := LU r.length least hm1)
      exact ⟨rfl, rfl, hG⟩
    · cases hl
end Go.Proofs.YtbbhjceelghadaaDoor.K
end

section
namespace Go.Proofs.YtbbhjceelghadaaDoor.K
open Go Go.RowKit Go.Proofs.YtbbhjceelghadaaDoorW.PrintWords Go.Proofs.YtbbhjceelghadaaDoorW.PrintLast Go.Proofs.YtbbhjceelghadaaDoorW.PrintMore Go.Proofs.YtbbhjceelghadaaDoor.My
/-- What a reading comes to: a value and what is left, or the panic. -/
def PP {α : Type} (res : Option (α × List UInt8)) (val : α → Value → World → Prop) (w0 w : World) (g : Nat) (e : Ending) (w' : World) : Prop :=
  w.grownBy w' (some g) ∧ ((∃ x l' v, res = some (x, l') ∧ e = .returned v ∧ val x v w' ∧ Rd w0 w' g l') ∨ (res = none ∧ e = .panicked yF))
theorem PP.ok {α : Type} {res : Option (α × List UInt8)} {val : α → Value → World → Prop} {w0 w w' : World} {g : Nat} {e : Ending} {x : α} {l : List UInt8} (h : PP res val w0 w g e w') (hr : res = some (x, l)) : ∃ v, e = .returned v ∧ val x v w' ∧ Rd w0 w' g l ∧ w.grownBy w' (some g) := by
  obtain ⟨hg, ⟨x', l', v, h1, h2, h3, h4⟩ | ⟨h1, _⟩⟩ := h
  · rw [hr] at h1
    injection h1 with h1
    injection h1 with h1 h5
    subst h1; subst h5
    exact ⟨v, h2, h3, h4, hg⟩
  · rw [hr] at h1; cases h1
theorem PP.short {α : Type} {res : Option (α × List UInt8)} {val : α → Value → World → Prop} {w0 w w' : World} {g : Nat} {e : Ending} (h : PP res val w0 w g e w') (hr : res = none) : e = .panicked yF ∧ w.grownBy w' (some g) := by
  obtain ⟨hg, ⟨x', l', v, h1, _⟩ | ⟨_, h2⟩⟩ := h
  · rw [hr] at h1; cases h1
  · exact ⟨h2, hg⟩
/-- Numbers in a row of the call's own. -/
def RI (w : World) (base : Nat) (v : Value) (xs : List Int) : Prop := Kd.R (Kd.int .i64) 3 w base (fun _ => True) v xs
theorem kX {α : Type} {d : Kd α} {e : Nat} {w w1 : World} {base : Nat} {ok : Nat → Prop} {v : Value} {xs : List α} {g : Nat} (h : d.R e w base ok v xs) (hg : w.grownBy w1 (some g)) (hlt : g < base) : d.R e w1 base ok v xs :=
  Kd.R_mono (Kd.R_grown (Kd.R_bound h) hg (fun k hk e => by have := hk.2.1; injection e with e; omega)) (fun _ hk => hk.1)
theorem OW {α : Type} {d : Kd α} {e : Nat} {w : World} {base : Nat} {ok : Nat → Prop} {ad : Addr} {n cap : Nat} {xs : List α} (h : d.R e w base ok (.slice (some ad) n cap) xs) : ∃ g, ad = ⟨g, 0, none⟩ := Kd.R_head h
theorem TR {w : World} {base : Nat} {ad : Addr} {n c : Nat} {xs : List Int} (h : RI w base (.slice (some ad) n c) xs) (k : Nat) (hk : k < n) (x : Int) :
    (∃ old, w.cell? (ad.add k) = some old) ∧ w.frozen? (ad.add k) = false ∧ base ≤ ad.block ∧
    RI (w.setCell (ad.add k) (.int .i64 x)) base (.slice (some ad) n c) (xs.set k x) ∧ w.grownBy (w.setCell (ad.add k) (.int .i64 x)) (some ad.block) := by
  obtain ⟨g, rfl⟩ := OW h
  have ho := Kd.own_of_R (enc := Value.int .i64) (h1 := fun _ => rfl) h
  obtain ⟨hlen, _, hC⟩ := Kd.R_reads' h
  obtain ⟨A1, e1, hx⟩ := Kd.at_int hC (k : Int) (by omega) (by omega)
  injection e1 with e1
  subst e1
  rw [Int.toNat_natCast] at hx
  obtain ⟨cells, hc⟩ := rP ho g (by simp [Value.ownBlock])
  rw [← hlen] at ho
  obtain ⟨h2, h3⟩ := IX ho (k : Int) x
  rw [Int.toNat_natCast] at h2 h3
  have ha : (⟨g, 0, none⟩ : Addr).add k = ⟨g, k, none⟩ := by rw [add_plain]
  rw [ha] at hx ⊢
  refine ⟨⟨_, hx⟩, iC hc k, ?_, Kd.R_of_own ?_ (fun _ _ => trivial), h3⟩
  · exact Kd.R_base h g (by simp [Value.ownBlock])
  · rw [List.length_set, ← hlen]
    exact h2
theorem TF {W : World} {n base : Nat} (hn : n ≤ 9223372036854775807) (hb : base ≤ W.heap.size) : RI (W.alloc (.cells (madeCells #[.int .i64 0] n) 3)) base (.slice (some ⟨W.heap.size, 0, none⟩) n n) (List.replicate n 0) := by
  refine Kd.R_of_own ?_ (fun _ _ => trivial)
  have h := World.ownsRow_lit (base := base) (e := 3) (size := 1) W (madeCells #[.int .i64 0] n) n hb (by unfold maxLen; omega) (by simp [madeCells])
  rw [List.length_replicate]
  have e : (madeCells #[.int .i64 0] n).toList = encs (Value.int .i64) (List.replicate n 0) := by
    apply List.ext_getElem
    · simp [madeCells, encs]
    · intro i h1 h2
      simp [madeCells, Nat.mod_one, encs]
  rw [← e]
  exact h
theorem lV {w w1 w2 : World} {g b : Nat} (h : w.grownBy w1 (some g)) (k : w1.grownBy w2 (some b)) (hb : w.heap.size ≤ b) : w.grownBy w2 (some g) :=
  ⟨k.os.trans h.os, k.tape.trans h.tape, k.output.trans h.output, Nat.le_trans h.size k.size, fun i hi hne => (k.block i (Nat.lt_of_lt_of_le hi h.size) (fun e => by injection e with e; omega)).trans (h.block i hi hne)⟩
theorem vU {α : Type} (p : List UInt8 → Option (α × List UInt8)) (n : Nat) (b : List UInt8) : repP p (n + 1) b = (p b).bind fun x => (repP p n x.2).bind fun y => some (x.1 :: y.1, y.2) := rfl
/-- What is known between two elements: some are done, some are left. -/
def Left {α : Type} (p : List UInt8 → Option (α × List UInt8)) (n k : Nat) (l r : List UInt8) (done : List α) : Prop :=
  done.length = k ∧ repP p n l = (repP p (n - k) r).bind fun y => some (done ++ y.1, y.2)
theorem Left.start {α : Type} (p : List UInt8 → Option (α × List UInt8)) (n : Nat) (l : List UInt8) : Left p n 0 l l [] := by
  refine ⟨rfl, ?_⟩
  rw [Nat.sub_zero]
  cases repP p n l <;> rfl
theorem Left.next {α : Type} {p : List UInt8 → Option (α × List UInt8)} {n k : Nat} {l r r' : List UInt8} {done : List α} {x : α} (h : Left p n k l r done) (hk : k < n) (hp : p r = some (x, r')) : Left p n (k + 1) l r' (done ++ [x]) := by
  refine ⟨by rw [List.length_append, h.1]; rfl, ?_⟩
  rw [h.2, show n - k = (n - (k + 1)) + 1 by omega, vU, hp]
  simp only [Option.bind_some]
  cases repP p (n - (k + 1)) r' with
  | none => rfl
  | some y => simp
theorem Left.fail {α : Type} {p : List UInt8 → Option (α × List UInt8)} {n k : Nat} {l r : List UInt8} {done : List α} (h : Left p n k l r done) (hk : k < n) (hp : p r = none) : repP p n l = none := by
  rw [h.2, show n - k = (n - (k + 1)) + 1 by omega, vU, hp]
  rfl
theorem Left.done {α : Type} {p : List UInt8 → Option (α × List UInt8)} {n : Nat} {l r : List UInt8} {done : List α} (h : Left p n n l r done) : repP p n l = some (done, r) := by
  rw [h.2, Nat.sub_self]
  simp [repP]
theorem JY {α : Type} (z x : α) (done : List α) (n k : Nat) (hd : done.length = k) (hk : k < n) : (done ++ List.replicate (n - k) z).set k x = (done ++ [x]) ++ List.replicate (n - (k + 1)) z := by
  rw [List.set_append_right _ _ (by omega), hd, Nat.sub_self, show n - k = (n - (k + 1)) + 1 by omega, List.replicate_succ, List.set_cons_zero, List.append_assoc]
  rfl
theorem nJ {s least n : Nat} {l r : List UInt8} (h : many s least l = some (n, r)) (h1 : 1 ≤ least) : r.length + s = l.length ∧ n * least ≤ r.length := by
  unfold many at h
  obtain ⟨⟨m, r'⟩, hn, hl⟩ := Option.bind_eq_some_iff.1 h
  simp only at hl
  split at hl
  · cases hl
  injection hl with hl
  injection hl with e1 e2
  subst e1; subst e2
  rename_i hle
  obtain ⟨h3, _, rfl⟩ := mX hn
  refine ⟨by rw [List.length_drop]; omega, (Nat.le_div_iff_mul_le (by omega)).1 (by omega)⟩
theorem OC (n : Nat) (h : n < 9223372036854775808) : wrap64 (n : Int) = (n : Int) := by unfold wrap64; omega
theorem rZ {t e : TypeId} {z : Value} {size bytes : Nat} (ht : Tryd.prog.underlying t = some (.slice e)) (hinfo : (Tryd.prog.info? e).map (fun i => (i.zero, i.size, i.bytes)) = some (some z, size, bytes)) (hb : bytes ≤ 100000) (n : Nat) (hn : (n : Int) ≤ 100000) (W : World) :
    (Instr.makeSlice t (.int .i64 (n : Int)) (.int .i64 (n : Int))).run Tryd.prog W = .ok (.slice (some ⟨W.heap.size, 0, none⟩) n n) (W.alloc (.cells (madeCells z.cells (n * size)) e)) := by
  obtain ⟨i, hi, he⟩ := Option.map_eq_some_iff.1 hinfo
  simp only [Prod.mk.injEq] at he
  obtain ⟨h1, h2, h3⟩ := he
  have hbn : (i.bytes : Int) * (n : Int) ≤ 281474976710656 := by
    have h4 : (i.bytes : Int) ≤ 100000 := by omega
    have h5 : (i.bytes : Int) * (n : Int) ≤ 100000 * 100000 := Int.mul_le_mul h4 hn (by omega) (by omega)
    omega
  have := run_make W t e i z ht hi h1 .i64 .i64 (n : Int) (n : Int) (by omega) (by omega) hbn (by omega)
  rw [h2, Int.toNat_natCast] at this
  exact this
theorem nT {s : Nat} {l r : List UInt8} {x : Int} (h : intP s l = some (x, r)) : s ≤ l.length ∧ x = (numB (l.take s) : Int) ∧ r = l.drop s := by
  unfold intP at h
  obtain ⟨⟨m, r'⟩, hn, hl⟩ := Option.bind_eq_some_iff.1 h
  injection hl with hl
  injection hl with e1 e2
  subst e1; subst e2
  obtain ⟨h1, rfl, rfl⟩ := mX hn
  exact ⟨h1, rfl, rfl⟩
theorem lS {s : Nat} {l : List UInt8} (h : intP s l = none) : l.length < s := by
  unfold intP at h
  cases hn : number s l with
  | none => exact qR hn
  | some x => rw [hn] at h; cases h
theorem pU (l : List UInt8) (s : Nat) (hs : s ≤ 4) : (numB (l.take s) : Int) < 4294967296 := by
  have h1 := zK (l.take s)
  have h2 : (l.take s).length ≤ 4 := by rw [List.length_take]; omega
  have h3 : 256 ^ (l.take s).length ≤ 256 ^ 4 := Nat.pow_le_pow_right (by decide) h2
  have h4 : 256 ^ 4 = 4294967296 := by decide
  omega
set_option maxRecDepth 20000 in
set_option maxHeartbeats 2000000 in
theorem qI (g : Nat) (l : List UInt8) (w0 w : World) (h : Rd w0 w g l) (hb : Below w0.heap.size w0 w) (hg : w0.heap.size ≤ g) (hm : (l.length : Int) ≤ 100000) :
    Calls Tryd.prog 142 #[.pointer (some ⟨g, 0, none⟩)] w (PP (nU l) (fun xs v w' => RI w' w.heap.size v xs) w0 w g) := by
  have HR := iE.mk h
  have HB := iE.mk hb
  have hlt := h.lt
  clear h hb
  cases hmy : many 1 1 l with
  | none =>
    have hn : nU l = none := by unfold nU; rw [hmy]; rfl
    have hcall := oM 1 1 1 1 rfl rfl (by omega) (by omega) g l w0 w HR.out HB.out hg hmy
    have HN := iE.mk hn
    clear hmy hn
    go_enter Tryd.func142, Tryd.ntmps142
    go_wp2_with (go_at_call 151; refine hcall.mono ?_; rintro e w1 ⟨rfl, hG⟩)
    exact ⟨rfl, hG, .inr ⟨HN.out, rfl⟩⟩
  | some x =>
    obtain ⟨n, r0⟩ := x
    have hn : nU l = repP (intP 1) n r0 := by unfold nU; rw [hmy]; rfl
    have hcall := xA 1 1 1 1 rfl rfl (by omega) (by omega) g l r0 n w0 w HR.out HB.out hg hmy
    have HN := iE.mk hn
    obtain ⟨hl1, hl2⟩ := nJ hmy (by omega)
    have hn1 : (n : Int) ≤ 100000 := by omega
    have hr1 : (r0.length : Int) ≤ 100000 := by omega
    have hmk := rZ (t := 50) (e := 3) Tryd.underlying50 info3 (by omega) n hn1
    clear hmy hn hl1 hl2
    go_enter Tryd.func142, Tryd.ntmps142
    go_wp2_with (go_at_call 151; refine hcall.mono ?_; rintro e w1 ⟨rfl, hR, hG, hle⟩; clear hle; have HR1 := iE.mk hR; have HG1 := iE.mk hG; clear hR hG)
    have HO := iE.mk (TF (W := w1) (n := n) (base := w.heap.size) (by omega) HG1.out.size)
    have HG := iE.mk (jB HG1.out (grown_below (iG (Below.refl _ _) (.cells (madeCells #[.int .i64 0] n) 3))))
    have HR2 := iE.mk (Rd.grown HR1.out (grown_below (row := none) (iG (Below.refl _ _) (.cells (madeCells #[.int .i64 0] n) 3))) (by simp))
    clear HR1 HG1 hcall hmk
    obtain ⟨ad, had⟩ : ∃ ad : Addr, ad = ⟨w1.heap.size, 0, none⟩ := ⟨_, rfl⟩
    rw [← had] at HO ⊢
    obtain ⟨W2, hW⟩ : ∃ W2, W2 = w1.alloc (.cells (madeCells #[.int .i64 0] n) 3) := ⟨_, rfl⟩
    rw [← hW] at HO HG HR2 ⊢
    clear hW had
    go_loopw [10] (fun i wr => ∃ (k : Nat) (done : List Int) (r : List UInt8), k ≤ n ∧ i = .int .i64 k ∧ iE (Left (intP 1) n k r0 r done) ∧ iE (Rd w0 wr g r) ∧ iE (RI wr w.heap.size (.slice (some ad) n n) (done ++ List.replicate (n - k) 0)) ∧ iE (w.grownBy wr (some g))) (fun i _ => n - (intOf i).toNat)
    case atStart => exact ⟨0, [], r0, Nat.zero_le _, rfl, ⟨Left.start _ _ _⟩, HR2, HO, HG⟩
    case round =>
      obtain ⟨k, done, r, hk, rfl, HL, HRd, HOk, HGk⟩ := hrel
      clear HR2 HO HG
      by_cases hkn : k < n
      · cases hp : intP 1 r with
        | none =>
          have hcall := jZ 1 1 rfl g r w0 wr HRd.out (lS hp)
          have HF := iE.mk (Left.fail HL.out hkn hp)
          clear hp
          go_wp2_with (go_at_call 141; refine hcall.mono ?_; rintro e w2 ⟨rfl, hG⟩)
          exact ⟨rfl, jB HGk.out hG, .inr ⟨by rw [HN.out]; exact HF.out, rfl⟩⟩
        | some x =>
          obtain ⟨x, r'⟩ := x
          obtain ⟨hs1, hx, hr'⟩ := nT hp
          have HN1 := iE.mk (Left.next HL.out hkn hp)
          have hcall := mM 1 1 rfl (by omega) g r w0 wr HRd.out (below_grown HB.out HGk.out hg (Nat.le_refl _)) hs1
          have hsm := pU r 1 (by omega)
          rw [← hr'] at hcall
          obtain ⟨m, hm1⟩ : ∃ m, m = numB (r.take 1) := ⟨_, rfl⟩
          rw [← hm1] at hcall hsm hx
          subst hx
          clear hp hr' hm1 hs1
          go_wp2_with (go_at_call 141; refine hcall.mono ?_; rintro e w2 ⟨rfl, hR, hG⟩; obtain ⟨⟨old, ho⟩, hf, hbs, hset, hgr⟩ := TR (kX HOk.out hG hlt) k hkn (m : Int); have HS := iE.mk hset; have HGR := iE.mk (lV (jB HGk.out hG) hgr hbs); have HRR := iE.mk (Rd.grown hR hgr (by (intro e; injection e with e; omega))); clear hset hgr hbs hR hG)
          go_roundw
          case rel => exact ⟨k + 1, done ++ [(m : Int)], r', by omega, by go_num, HN1, HRR, ⟨by rw [← JY _ _ _ _ _ HL.out.1 hkn]; exact HS.out⟩, HGR⟩
          case measure => simp [intOf]; omega
      · obtain rfl : k = n := by omega
        go_wp2
        go_ret
        have hd := HOk.out
        rw [Nat.sub_self, List.replicate_zero, List.append_nil] at hd
        exact ⟨HGk.out, .inl ⟨done, r, _, by rw [HN.out]; exact Left.done HL.out, rfl, hd, HRd.out⟩⟩
/-- Rows of two cells each, as cells. -/
def RW (e : Nat) (w : World) (base : Nat) (v : Value) (rows : List (List Value)) : Prop := (Kd.raw 2).R e w base (fun _ => True) v rows
theorem zD {e : Nat} {w : World} {base : Nat} {ad : Addr} {n c : Nat} {rows : List (List Value)} (h : RW e w base (.slice (some ad) n c) rows) (k : Nat) (hk : k < n) :
    ∃ x y, rows.getD k [] = [x, y] ∧ w.cell? (ad.add (k * 2)) = some x ∧ w.cell? ⟨(ad.add (k * 2)).block, (ad.add (k * 2)).off + 1, none⟩ = some y ∧ w.frozen? (ad.add (k * 2)) = false ∧ w.frozen? ⟨(ad.add (k * 2)).block, (ad.add (k * 2)).off + 1, none⟩ = false ∧ base ≤ ad.block ∧ ad.block < w.heap.size ∧
    (∀ u : Value, u.oneCell' = true → RW e (w.setCell (ad.add (k * 2)) u) base (.slice (some ad) n c) (rows.set k [u, y]) ∧ w.grownBy (w.setCell (ad.add (k * 2)) u) (some ad.block)) ∧
    (∀ u : Value, u.oneCell' = true → RW e (w.setCell ⟨(ad.add (k * 2)).block, (ad.add (k * 2)).off + 1, none⟩ u) base (.slice (some ad) n c) (rows.set k [x, u]) ∧ w.grownBy (w.setCell ⟨(ad.add (k * 2)).block, (ad.add (k * 2)).off + 1, none⟩ u) (some ad.block)) := by
  obtain ⟨g, rfl⟩ := OW h
  have hb := Kd.R_base h g (by simp [Value.ownBlock])
  have hlt := Kd.R_lt h g (by simp [Value.ownBlock])
  obtain ⟨cc, hcl, hM, hcc, hf⟩ := Kd.R_elem h [] (k : Int) (by omega) (by omega)
  rw [Int.toNat_natCast] at hM hcc hf
  have hM' : cc = rows.getD k [] ∧ cc.length = 2 ∧ ∀ u ∈ cc, u.oneCell' = true := hM
  obtain ⟨hc1, hc2, hc3⟩ := hM'
  obtain ⟨x, y, rfl⟩ : ∃ x y, cc = [x, y] := by
    match cc, hc2 with
    | [x, y], _ => exact ⟨x, y, rfl⟩
  have ha : (⟨g, 0, none⟩ : Addr).add (k * 2) = ⟨g, k * 2, none⟩ := by rw [add_plain]
  rw [ha]
  have z0 : w.cell? ⟨g, k * 2, none⟩ = some x := hcc 0 x rfl
  have z1 : w.cell? ⟨g, k * 2 + 1, none⟩ = some y := hcc 1 y rfl
  have f0 : w.frozen? ⟨g, k * 2, none⟩ = false := hf 0
  have f1 : w.frozen? ⟨g, k * 2 + 1, none⟩ = false := hf 1
  have ox := hc3 x (by simp)
  have oy := hc3 y (by simp)
  have hcc' : ∀ j u, [x, y][j]? = some u → w.cell? ⟨g, (k : Int).toNat * (Kd.raw 2).sz + j, none⟩ = some u := by rw [Int.toNat_natCast]; exact hcc
  refine ⟨x, y, hc1.symm, z0, z1, f0, f1, hb, hlt, fun u hu => ?_, fun u hu => ?_⟩
  · have := Kd.R_seg (d := Kd.raw 2) (okp := fun _ => False) (c := [x, y]) (seg := [u]) (j := 0) (x' := [u, y]) h (k : Int) (by omega) (by omega) rfl hcc' (show _ ≤ 2 by simp) ⟨rfl, rfl, by
      intro z hz
      rcases List.mem_cons.1 hz with rfl | hz
      · exact hu
      · rcases List.mem_cons.1 hz with rfl | hz
        · exact oy
        · cases hz⟩ (fun _ hk => hk.elim)
    rw [Int.toNat_natCast] at this
    exact this
  · have := Kd.R_seg (d := Kd.raw 2) (okp := fun _ => False) (c := [x, y]) (seg := [u]) (j := 1) (x' := [x, u]) h (k : Int) (by omega) (by omega) rfl hcc' (show _ ≤ 2 by simp) ⟨rfl, rfl, by
      intro z hz
      rcases List.mem_cons.1 hz with rfl | hz
      · exact ox
      · rcases List.mem_cons.1 hz with rfl | hz
        · exact hu
        · cases hz⟩ (fun _ hk => hk.elim)
    rw [Int.toNat_natCast] at this
    exact this
theorem OU {e : Nat} {W : World} {n base : Nat} {x y : Value} (ox : x.oneCell' = true) (oy : y.oneCell' = true) (hn : n ≤ 9223372036854775807) (hb : base ≤ W.heap.size) : RW e (W.alloc (.cells (madeCells #[x, y] (n * 2)) e)) base (.slice (some ⟨W.heap.size, 0, none⟩) n n) (List.replicate n [x, y]) := by
  refine ⟨fun _ _ => trivial, (madeCells #[x, y] (n * 2)).toList, ?_, ?_, ?_⟩
  · rw [List.length_replicate]
    exact World.ownsRow_lit W (madeCells #[x, y] (n * 2)) n hb (by unfold maxLen; omega) (by simp [madeCells, Kd.raw])
  · simp [madeCells, Kd.raw]
  · intro j p hj
    obtain ⟨hjl, hjp⟩ := List.getElem?_eq_some_iff.1 hj
    rw [List.length_replicate] at hjl
    rw [List.getElem_replicate] at hjp
    subst hjp
    have hcell : (((madeCells #[x, y] (n * 2)).toList.drop (j * (Kd.raw 2).sz)).take (Kd.raw 2).sz) = [x, y] := by
      apply List.ext_getElem
      · simp [madeCells, Kd.raw]; omega
      · intro i h1 h2
        have hi : i < 2 := by simpa using h2
        rw [List.getElem_take, List.getElem_drop]
        have hi' : i = 0 ∨ i = 1 := by omega
        rcases hi' with rfl | rfl <;> simp [madeCells, Kd.raw, Nat.add_mod]
    rw [hcell]
    refine ⟨rfl, rfl, fun u hu => ?_⟩
    rcases List.mem_cons.1 hu with rfl | hu
    · exact ox
    · rcases List.mem_cons.1 hu with rfl | hu
      · exact oy
      · cases hu
theorem zA {α : Type} {d : Kd α} (hd : d.sz = 2) {e : Nat} {w : World} {base : Nat} {v : Value} {rows : List (List Value)} {xs : List α} {ok : Nat → Prop} (h : RW e w base v rows) (hl : xs.length = rows.length) (hok : ∀ k, v.ownBlock = some k → ok k) (hM : ∀ (j : Nat) (p : α) (c : List Value), xs[j]? = some p → rows[j]? = some c → d.M w base (fun k => ok k ∧ some k ≠ v.ownBlock) p c) : d.R e w base ok v xs := by
  obtain ⟨_, inner, ho, hr⟩ := h
  refine ⟨hok, inner, ?_, ?_, ?_⟩
  · rw [hl, hd]; exact ho
  · rw [hl, hd]; exact hr.1
  · intro j p hj
    have hjl : j < rows.length := by rw [← hl]; exact (List.getElem?_eq_some_iff.1 hj).1
    have hc := hr.2 j rows[j] (List.getElem?_eq_getElem hjl)
    rw [hd]
    have e : ((inner.drop (j * (Kd.raw 2).sz)).take (Kd.raw 2).sz) = rows[j] := hc.1
    show d.M w base _ p ((inner.drop (j * 2)).take 2)
    rw [show ((inner.drop (j * 2)).take 2) = rows[j] from e]
    exact hM j p _ hj (List.getElem?_eq_getElem hjl)
end Go.Proofs.YtbbhjceelghadaaDoor.K
end

section
namespace Go.Proofs.YtbbhjceelghadaaDoor.K
open Go Go.RowKit Go.Proofs.YtbbhjceelghadaaDoorW.PrintWords Go.Proofs.YtbbhjceelghadaaDoorW.PrintLast Go.Proofs.YtbbhjceelghadaaDoorW.PrintMore Go.Proofs.YtbbhjceelghadaaDoor.My
def encS (s : jW) : List Value := [.int .i64 s.f0, .int .i64 s.f1]
theorem LD {α β : Type} (f : α → β) (z u : β) (done : List α) (n k : Nat) (x : α) (hu : u = f x) (hd : done.length = k) (hk : k < n) : (done.map f ++ List.replicate (n - k) z).set k u = (done ++ [x]).map f ++ List.replicate (n - (k + 1)) z := by
  subst hu
  rw [JY z (f x) (done.map f) n k (by rw [List.length_map]; exact hd) hk, List.map_append]
  rfl
theorem L9 {r : List UInt8} (h : intP 4 r = none) : uK r = none := by unfold uK; rw [h]; rfl
theorem JK {r r1 : List UInt8} {x : Int} (h : intP 4 r = some (x, r1)) (h1 : intP 1 r1 = none) : uK r = none := by unfold uK; rw [h]; simp only [Option.bind_some]; rw [h1]; rfl
theorem O4 {r r1 r2 : List UInt8} {x y : Int} (h : intP 4 r = some (x, r1)) (h1 : intP 1 r1 = some (y, r2)) : uK r = some (⟨x, y⟩, r2) := by unfold uK; rw [h]; simp only [Option.bind_some]; rw [h1]; rfl
set_option maxRecDepth 20000 in
set_option maxHeartbeats 4000000 in
theorem yE (g : Nat) (l : List UInt8) (w0 w : World) (h : Rd w0 w g l) (hb : Below w0.heap.size w0 w) (hg : w0.heap.size ≤ g) (hm : (l.length : Int) ≤ 100000) :
    Calls Tryd.prog 144 #[.pointer (some ⟨g, 0, none⟩)] w (PP (pJ l) (fun xs v w' => Kd.R k132 132 w' w.heap.size (fun _ => True) v xs) w0 w g) := by
  have HR := iE.mk h
  have HB := iE.mk hb
  have hlt := h.lt
  clear h hb
  cases hmy : many 1 5 l with
  | none =>
    have hn : pJ l = none := by unfold pJ; rw [hmy]; rfl
    have hcall := oM 1 5 1 5 rfl rfl (by omega) (by omega) g l w0 w HR.out HB.out hg hmy
    have HN := iE.mk hn
    clear hmy hn
    go_enter Tryd.func144, Tryd.ntmps144
    go_wp2_with (go_at_call 151; refine hcall.mono ?_; rintro e w1 ⟨rfl, hG⟩)
    exact ⟨rfl, hG, .inr ⟨HN.out, rfl⟩⟩
  | some x =>
    obtain ⟨n, r0⟩ := x
    have hn : pJ l = repP uK n r0 := by unfold pJ; rw [hmy]; rfl
    have hcall := xA 1 5 1 5 rfl rfl (by omega) (by omega) g l r0 n w0 w HR.out HB.out hg hmy
    have HN := iE.mk hn
    obtain ⟨hl1, hl2⟩ := nJ hmy (by omega)
    have hn1 : (n : Int) ≤ 100000 := by omega
    have hmk := rZ (t := 52) (e := 132) Tryd.underlying52 OQ (by omega) n hn1
    clear hmy hn hl1 hl2
    go_enter Tryd.func144, Tryd.ntmps144
    go_wp2_with (go_at_call 151; refine hcall.mono ?_; rintro e w1 ⟨rfl, hR, hG, hle⟩; clear hle; have HR1 := iE.mk hR; have HG1 := iE.mk hG; clear hR hG)
    have HO := iE.mk (OU (e := 132) (W := w1) (n := n) (base := w.heap.size) (x := .int .i64 0) (y := .int .i64 0) rfl rfl (by omega) HG1.out.size)
    have HG := iE.mk (jB HG1.out (grown_below (iG (Below.refl _ _) (.cells (madeCells #[.int .i64 0, .int .i64 0] (n * 2)) 132))))
    have HR2 := iE.mk (Rd.grown HR1.out (grown_below (row := none) (iG (Below.refl _ _) (.cells (madeCells #[.int .i64 0, .int .i64 0] (n * 2)) 132))) (by simp))
    clear HR1 HG1 hcall hmk
    obtain ⟨ad, had⟩ : ∃ ad : Addr, ad = ⟨w1.heap.size, 0, none⟩ := ⟨_, rfl⟩
    rw [← had] at HO ⊢
    obtain ⟨W2, hW⟩ : ∃ W2, W2 = w1.alloc (.cells (madeCells #[.int .i64 0, .int .i64 0] (n * 2)) 132) := ⟨_, rfl⟩
    rw [← hW] at HO HG HR2
    first | rw [← hW] | (rw [show w1.alloc (.cells (madeCells (Value.agg #[.int .i64 0, .int .i64 0]).cells (n * 2)) 132) = W2 from hW.symm])
    clear hW had
    go_loopw [10] (fun i wr => ∃ (k : Nat) (done : List jW) (r : List UInt8), k ≤ n ∧ i = .int .i64 k ∧ iE (Left uK n k r0 r done) ∧ iE (Rd w0 wr g r) ∧ iE (RW 132 wr w.heap.size (.slice (some ad) n n) (done.map encS ++ List.replicate (n - k) [.int .i64 0, .int .i64 0])) ∧ iE (w.grownBy wr (some g))) (fun i _ => n - (intOf i).toNat)
    case atStart => exact ⟨0, [], r0, Nat.zero_le _, rfl, ⟨Left.start _ _ _⟩, HR2, HO, HG⟩
    case round =>
      obtain ⟨k, done, r, hk, rfl, HL, HRd, HOk, HGk⟩ := hrel
      clear HR2 HO HG
      by_cases hkn : k < n
      · cases hp : intP 4 r with
        | none =>
          have hcall := jZ 4 4 rfl g r w0 wr HRd.out (lS hp)
          have HF := iE.mk (Left.fail HL.out hkn (L9 hp))
          clear hp
          go_wp2_with (go_at_call 141; refine hcall.mono ?_; rintro e w2 ⟨rfl, hG⟩)
          exact ⟨rfl, jB HGk.out hG, .inr ⟨by rw [HN.out]; exact HF.out, rfl⟩⟩
        | some x =>
          obtain ⟨x, r1⟩ := x
          obtain ⟨hs1, hx, hr1⟩ := nT hp
          have hcall := mM 4 4 rfl (by omega) g r w0 wr HRd.out (below_grown HB.out HGk.out hg (Nat.le_refl _)) hs1
          have hsm := pU r 4 (by omega)
          rw [← hr1] at hcall
          obtain ⟨m, hm1⟩ : ∃ m, m = numB (r.take 4) := ⟨_, rfl⟩
          rw [← hm1] at hcall hsm hx
          subst hx
          clear hr1 hm1 hs1
          cases hp1 : intP 1 r1 with
          | none =>
            have HF := iE.mk (Left.fail HL.out hkn (JK hp hp1))
            have HP1 := iE.mk hp1
            clear hp hp1
            go_wp2_with fail
            refine hcall.mono ?_
            rintro e w2 ⟨rfl, hR, hG⟩
            obtain ⟨x0, y0, hrow, z0, z1, f0, f1, hbs, hbl, hset0, _⟩ := zD (kX HOk.out hG hlt) k hkn
            obtain ⟨hs0, hg0⟩ := hset0 (.int .i64 (m : Int)) rfl
            have HGR := iE.mk (lV (jB HGk.out hG) hg0 hbs)
            have HRR := iE.mk (Rd.grown hR hg0 (by (intro e; injection e with e; omega)))
            clear hset0 hs0 hg0 hR hG hrow z1 f1 hcall
            go_wp2_with fail
            refine (jZ 1 1 rfl g r1 w0 _ HRR.out (lS HP1.out)).mono ?_
            rintro e w3 ⟨rfl, hG⟩
            go_wp2
            exact ⟨rfl, jB HGR.out hG, .inr ⟨by rw [HN.out]; exact HF.out, rfl⟩⟩
          | some y =>
            obtain ⟨y, r2⟩ := y
            have HN1 := iE.mk (Left.next HL.out hkn (O4 hp hp1))
            obtain ⟨hs2, hy, hr2⟩ := nT hp1
            have hsm2 := pU r1 1 (by omega)
            obtain ⟨m2, hm2⟩ : ∃ m2, m2 = numB (r1.take 1) := ⟨_, rfl⟩
            rw [← hm2] at hsm2 hy
            subst hy
            clear hp hp1
            go_wp2_with fail
            refine hcall.mono ?_
            rintro e w2 ⟨rfl, hR, hG⟩
            obtain ⟨x0, y0, hrow, z0, z1, f0, f1, hbs, hbl, hset0, _⟩ := zD (kX HOk.out hG hlt) k hkn
            obtain ⟨hs0, hg0⟩ := hset0 (.int .i64 (m : Int)) rfl
            have HGR := iE.mk (lV (jB HGk.out hG) hg0 hbs)
            have HRR := iE.mk (Rd.grown hR hg0 (by (intro e; injection e with e; omega)))
            have HS0 := iE.mk hs0
            clear hset0 hs0 hg0 hR hG hrow z1 f1 hcall
            go_wp2_with fail
            have hcall := mM 1 1 rfl (by omega) g r1 w0 _ HRR.out (below_grown HB.out HGR.out hg (Nat.le_refl _)) hs2
            rw [← hr2, ← hm2] at hcall
            refine hcall.mono ?_
            rintro e w3 ⟨rfl, hR, hG⟩
            obtain ⟨x1, y1, hrow, z0', z1, f0', f1, hbs1, hbl1, _, hset1⟩ := zD (kX HS0.out hG hlt) k hkn
            obtain ⟨hs1, hg1⟩ := hset1 (.int .i64 (m2 : Int)) rfl
            have hkl : k < (done.map encS ++ List.replicate (n - k) [Value.int .i64 0, .int .i64 0]).length := by rw [List.length_append, List.length_map, List.length_replicate, HL.out.1]; omega
            rw [List.getD_eq_getElem?_getD, List.getElem?_set_self hkl] at hrow
            have hx1 : x1 = .int .i64 (m : Int) := by injection hrow with hx _; exact hx.symm
            subst hx1
            rw [List.set_set] at hs1
            have HS1 := iE.mk hs1
            have HGR2 := iE.mk (lV (jB HGR.out hG) hg1 hbs1)
            have HRR2 := iE.mk (Rd.grown hR hg1 (by (intro e; injection e with e; omega)))
            clear hset1 hs1 hg1 hR hG hrow hcall z0 f0 z0' f0' hr2 hm2 hs2 hkl HS0 HGR HRR
            go_wp2
            go_roundw
            case rel => exact ⟨k + 1, done ++ [⟨(m : Int), (m2 : Int)⟩], r2, by omega, by go_num, HN1, HRR2, ⟨by rw [← LD encS _ [.int .i64 (m : Int), .int .i64 (m2 : Int)] done n k ⟨(m : Int), (m2 : Int)⟩ rfl HL.out.1 hkn]; exact HS1.out⟩, HGR2⟩
            case measure => simp [intOf]; omega
      · obtain rfl : k = n := by omega
        go_wp2
        go_ret
        have hd := HOk.out
        rw [Nat.sub_self, List.replicate_zero, List.append_nil] at hd
        refine ⟨HGk.out, .inl ⟨done, r, _, by rw [HN.out]; exact Left.done HL.out, rfl, ?_, HRd.out⟩⟩
        refine zA rfl hd (by rw [List.length_map]) (fun _ _ => trivial) (fun j p c hj hc => ?_)
        rw [List.getElem?_map, hj] at hc
        injection hc with hc
        subst hc
        exact LZ _ _ _ _
end Go.Proofs.YtbbhjceelghadaaDoor.K
end

section
namespace Go.Proofs.YtbbhjceelghadaaDoor.My
open Go Go.RowKit Go.Proofs.YtbbhjceelghadaaDoorW.PrintWords Go.Proofs.YtbbhjceelghadaaDoorW.PrintLast
def entries (D : List Tmp) (vs : Nat → Value) : List (Nat × Tmp × Value) := (List.range D.length).map fun i => (i, D.getD i 0, vs i)
theorem kN {D : List Tmp} {vs : Nat → Value} {i : Nat} (h : i < D.length) : (entries D vs)[i]? = some (i, D.getD i 0, vs i) := by
  unfold entries
  rw [List.getElem?_map, List.getElem?_range h]
  rfl
theorem kR (D : List Tmp) (vs : Nat → Value) : (entries D vs).length = D.length := by simp [entries]
theorem xI {D : List Tmp} {vs : Nat → Value} {i : Nat} (v : Value) : (entries D vs).set i (i, D.getD i 0, v) = entries D (fun j => if j = i then v else vs j) := by
  apply List.ext_getElem?
  intro j
  by_cases hj : j < D.length
  · by_cases hij : i = j
    · subst hij
      rw [List.getElem?_set_self (by rw [kR]; exact hj), kN hj, if_pos rfl]
    · rw [List.getElem?_set_ne hij, kN hj, kN hj, if_neg (Ne.symm hij)]
  · rw [List.getElem?_eq_none (by simp [kR]; omega), List.getElem?_eq_none (by rw [kR]; omega)]
/-- The places of D other than i do not hold D's i-th. -/
def rU (D : List Tmp) : Bool := decide D.Nodup
theorem O3 {D : List Tmp} (h : D.Nodup) {i j : Nat} (hi : i < D.length) (hj : j < D.length) (e : D.getD i 0 = D.getD j 0) : i = j := by
  rw [List.getD_eq_getElem?_getD, List.getD_eq_getElem?_getD, List.getElem?_eq_getElem hi, List.getElem?_eq_getElem hj] at e
  simp only [Option.getD_some] at e
  have hp := List.pairwise_iff_getElem.1 h
  rcases Nat.lt_trichotomy i j with hij | hij | hij
  · exact absurd e (hp i j hi hj hij)
  · exact hij
  · exact absurd e.symm (hp j i hj hi hij)
theorem pY {b b' : Nat → Bool} : ∀ {L : List (Nat × Tmp × Value)} {a : Act}, (∀ e ∈ L, b e.1 = b' e.1) → jX a b L = jX a b' L
  | [], _, _ => rfl
  | e :: L, a, h => by
    unfold jX
    rw [h e List.mem_cons_self]
    exact pY (fun x hx => h x (List.mem_cons_of_mem _ hx))
theorem nO {D : List Tmp} {vs : Nat → Value} {i : Nat} (hD : rU D = true) (hi : i < D.length) :
    (((entries D vs).take i ++ (entries D vs).drop (i + 1)).all fun e => !(e.1 == i) && !(e.2.1 == D.getD i 0)) = true := by
  have hnd : D.Nodup := of_decide_eq_true hD
  rw [List.all_eq_true]
  intro e he
  obtain ⟨j, hj, hne⟩ : ∃ j, (entries D vs)[j]? = some e ∧ j ≠ i := by
    rcases List.mem_append.1 he with h | h
    · obtain ⟨j, hj⟩ := List.getElem?_of_mem h
      rw [List.getElem?_take] at hj
      split at hj
      · exact ⟨j, hj, by omega⟩
      · cases hj
    · obtain ⟨j, hj⟩ := List.getElem?_of_mem h
      rw [List.getElem?_drop] at hj
      exact ⟨_, hj, by omega⟩
  have hjl : j < D.length := by have := (List.getElem?_eq_some_iff.1 hj).1; rwa [kR] at this
  rw [kN hjl] at hj
  simp only [Option.some.injEq] at hj
  subst hj
  simp only [Bool.and_eq_true, Bool.not_eq_true', beq_eq_false_iff_ne]
  exact ⟨hne, fun e => hne (O3 hnd hjl hi e)⟩
section
variable {P : Program} {ops : Array Oper} {Q : Exit → Act → World → Prop} {T : Bool × List (List Nat × List Nat)} {B : List Nat}
/-- One operation: whatever has come up before it, if all that it waits for has. -/
def qF (P : Program) (ops : Array Oper) (Q : Exit → Act → World → Prop) (B : List Nat) (D : List Tmp) (R : Nat → Value → World → Prop) (a0 : Act) (w0 : World) (i : Nat) : Prop :=
  ∀ (a : Act) (w : World) (vs : Nat → Value), Below w0.heap.size w0 w → (∀ s, D.contains s = false → a.tmps[s]? = a0.tmps[s]?) →
    (∀ j, (B.getD i 0).testBit j = true → a.tmps[D.getD j 0]? = some (vs j) ∧ R j (vs j) w) →
    ∃ oi, ops[i]? = some oi ∧ oi.dst = some (D.getD i 0) ∧ ∀ K : Act → World → Prop, (∀ v w', R i v w' → Below w.heap.size w w' → K (a.put (some (D.getD i 0)) v) w') →
      if Region.wanted oi (yielded ops a.tmps) = true then Oper.wp P oi a w K Q else K (a.put (some (D.getD i 0)) undef) w
theorem NV {D : List Tmp} {R : Nat → Value → World → Prop} {a0 : Act} {w0 : World} : ∀ i ∈ ([] : List Nat), qF P ops Q B D R a0 w0 i := fun _ h => by cases h
theorem kZ {D : List Tmp} {R : Nat → Value → World → Prop} {a0 : Act} {w0 : World} {i : Nat} {rs : List Nat} (h : qF P ops Q B D R a0 w0 i) (hs : ∀ j ∈ rs, qF P ops Q B D R a0 w0 j) : ∀ j ∈ i :: rs, qF P ops Q B D R a0 w0 j := fun j hj => by
  rcases List.mem_cons.1 hj with rfl | hj
  · exact h
  · exact hs j hj
/-- What stays known while memory grows. -/
def Rm (r : Value → World → Prop) : Prop := ∀ v w w', r v w → Below w.heap.size w w' → r v w'
theorem xU (t : Value) : Rm (fun v _ => v = t) := fun _ _ _ h _ => h
theorem UL : ∀ r ∈ ([] : List (Value → World → Prop)), Rm r := fun _ h => by cases h
theorem nH {r : Value → World → Prop} {rs : List (Value → World → Prop)} (h : Rm r) (hs : ∀ r ∈ rs, Rm r) : ∀ x ∈ r :: rs, Rm x := fun x hx => by
  rcases List.mem_cons.1 hx with rfl | hx
  · exact h
  · exact hs x hx
def RR (Rs : List (Value → World → Prop)) : Nat → Value → World → Prop := fun i => Rs.getD i (fun _ _ => True)
theorem UN {Rs : List (Value → World → Prop)} (h : ∀ r ∈ Rs, Rm r) : ∀ i v w w', RR Rs i v w → Below w.heap.size w w' → RR Rs i v w' := by
  intro i v w w' hr hb
  unfold RR at *
  rcases Nat.lt_or_ge i Rs.length with hl | hl
  · have e : Rs.getD i (fun _ _ => True) = Rs[i] := by rw [List.getD_eq_getElem?_getD, List.getElem?_eq_getElem hl]; rfl
    rw [e] at hr ⊢
    exact h _ (List.getElem_mem hl) v w w' hr hb
  · rw [List.getD_eq_getElem?_getD, List.getElem?_eq_none hl]
    trivial
theorem LC {id : Nat} {a0 : Act} {w0 : World} (D : List Tmp) (R : Nat → Value → World → Prop) (hm : P.follows .mixedOrders = true)
    (hT : rtab .any ops = T) (hw : lU T.2 B = true) (hk : oN T.2 (List.range ops.size) = true) (hD : rU D = true) (hDn : D.length = ops.size)
    (hin : (D.all fun t => Nat.ble (t + 1) a0.tmps.size) = true) (hBn : ((List.range ops.size).all fun i => Nat.ble (B.getD i 0) (2 ^ ops.size - 1)) = true)
    (hmono : ∀ i v w w', R i v w → Below w.heap.size w w' → R i v w')
    (hs : ∀ i ∈ List.range ops.size, qF P ops Q B D R a0 w0 i)
    (hend : ∀ (vs : Nat → Value) (w : World), Below w0.heap.size w0 w → (∀ i, i < ops.size → R i (vs i) w) → Q .normal (jX a0 (fun _ => true) (entries D vs)) w) :
    (Code.region id ops true).wp P Q a0 w0 := by
  have hTl : T.2.length = ops.size := by rw [← hT, mZ]
  refine pR (n := ops.size) (S := fun _ => True) (ds := []) (Array.replicate ops.size false) hm rfl rfl trivial (fun _ => ?_)
  refine inv_ (T := T) (B := B) (List.range ops.size) (fun b a w => ∃ vs : Nat → Value, a = jX a0 b (entries D vs) ∧ (∀ i, i < ops.size → b i = true → R i (vs i) w) ∧ Below w0.heap.size w0 w) hT hw hk ?_ ?_ ?_ ?_
  · simp only [Bool.and_eq_true, beq_iff_eq, List.length_range, and_true]
    rw [hTl]
    apply List.ext_getElem
    · simp [lof]
    · intro i h1 h2
      simp [lof] at h1 ⊢
      exact h1
  · refine ⟨fun _ => undef, ?_, (fun _ _ h => by cases h), nP (Below.refl _ _)⟩
    have : ∀ (L : List (Nat × Tmp × Value)) (a : Act), jX a (fun _ => false) L = a := by
      intro L
      induction L with
      | nil => intro a; rfl
      | cons e L ih => intro a; unfold jX; rw [if_neg (by simp)]; exact ih a
    rw [this]
  · intro i hi
    have hil : i < ops.size := List.mem_range.1 hi
    have hiD : i < D.length := by omega
    intro b a w ⟨vs, ha, hR, hB⟩ hb hon hoff
    have hsz : ∀ s, D.contains s = false → a.tmps[s]? = a0.tmps[s]? := by
      intro s hsD
      rw [ha]
      refine oK ?_
      rw [List.all_eq_true]
      intro e he
      obtain ⟨j, hj⟩ := List.getElem?_of_mem he
      have hjl : j < D.length := by have := (List.getElem?_eq_some_iff.1 hj).1; rwa [kR] at this
      rw [kN hjl] at hj
      simp only [Option.some.injEq] at hj
      subst hj
      simp only [Bool.not_eq_true', beq_eq_false_iff_ne]
      intro h
      have : D.contains s = true := by
        rw [List.contains_iff_mem, ← h, List.getD_eq_getElem?_getD, List.getElem?_eq_getElem hjl]
        exact List.getElem_mem hjl
      rw [this] at hsD
      cases hsD
    have hdep : ∀ j, (B.getD i 0).testBit j = true → a.tmps[D.getD j 0]? = some (vs j) ∧ R j (vs j) w := by
      intro j hj
      have hjn : j < ops.size := by
        rcases Nat.lt_or_ge j ops.size with h | h
        · exact h
        · have h1 := List.all_eq_true.1 hBn i hi
          have h2 : B.getD i 0 ≤ 2 ^ ops.size - 1 := Nat.le_of_ble_eq_true h1
          have h3 : B.getD i 0 < 2 ^ j := Nat.lt_of_le_of_lt h2 (Nat.lt_of_lt_of_le (Nat.sub_lt (Nat.two_pow_pos _) Nat.one_pos) (Nat.pow_le_pow_right (by decide) h))
          rw [Nat.testBit_lt_two_pow h3] at hj
          cases hj
      have hbj : b j = true := hon j (by rw [Bool.and_eq_true]; exact ⟨by simpa using hjn, hj⟩)
      refine ⟨?_, hR j hjn hbj⟩
      rw [ha]
      have hjD : j < D.length := by omega
      refine xN (e := (j, D.getD j 0, vs j)) j (kN hjD) ?_ hbj ?_
      · have := nO (vs := vs) hD hjD
        rw [List.all_append, Bool.and_eq_true] at this
        have h2 := this.2
        rw [List.all_eq_true] at h2 ⊢
        intro x hx
        have := h2 x hx
        rw [Bool.and_eq_true] at this
        exact this.2
      · have h1 := List.all_eq_true.1 hin (D.getD j 0) (by rw [List.getD_eq_getElem?_getD, List.getElem?_eq_getElem hjD]; exact List.getElem_mem hjD)
        exact h1
    obtain ⟨oi, ho, hdst, hstep⟩ := hs i hi a w vs hB hsz hdep
    refine ⟨oi, ho, fun K hK => ?_⟩
    rw [hdst]
    refine hstep K fun v w' hv hbw => ?_
    refine hK.out _ _ ⟨fun j => if j = i then v else vs j, ?_, ?_, iL hB hbw⟩
    · rw [ha]
      exact yK i hb (kN hiD) (xI v) (nO hD hiD)
    · intro j hj hbj
      by_cases hji : j = i
      · subst hji
        simp only [if_pos]
        exact hv
      · simp only [if_neg hji]
        rw [vF hji] at hbj
        exact hmono _ _ _ _ (hR j hj hbj) hbw
  · intro b a w hall ⟨vs, ha, hR, hB⟩
    have : jX a0 b (entries D vs) = jX a0 (fun _ => true) (entries D vs) := by
      have hlt : ∀ e ∈ entries D vs, b e.1 = true := by
        intro e he
        obtain ⟨j, hj⟩ := List.getElem?_of_mem he
        have hjl : j < D.length := by have := (List.getElem?_eq_some_iff.1 hj).1; rwa [kR] at this
        rw [kN hjl] at hj
        simp only [Option.some.injEq] at hj
        subst hj
        exact hall j (by simpa using (by omega : j < ops.size))
      exact pY (fun e he => hlt e he)
    rw [ha, this]
    exact hend vs w hB (fun i hi => hR i hi (hall i (by simpa using hi)))
/-- The same, as it is used. -/
theorem UO {id : Nat} {a0 : Act} {w0 : World} (D : List Tmp) (Rs : List (Value → World → Prop)) (L : List Nat) (T : Bool × List (List Nat × List Nat)) (B : List Nat) (hm : P.follows .mixedOrders = true)
    (hT : rtab .any ops = T) (hL : List.range ops.size = L) (hw : lU T.2 B = true) (hk : oN T.2 L = true) (hD : rU D = true) (hDn : D.length = ops.size)
    (hin : (D.all fun t => Nat.ble (t + 1) a0.tmps.size) = true) (hBn : (L.all fun i => Nat.ble (B.getD i 0) (2 ^ D.length - 1)) = true)
    (hmono : ∀ r ∈ Rs, Rm r) (hs : ∀ i ∈ L, qF P ops Q B D (RR Rs) a0 w0 i)
    (hend : ∀ (vs : Nat → Value) (w : World), Below w0.heap.size w0 w → (∀ i, Nat.ble (i + 1) D.length = true → RR Rs i (vs i) w) → Q .normal (jX a0 (fun _ => true) (entries D vs)) w) :
    (Code.region id ops true).wp P Q a0 w0 := by
  subst hL
  rw [hDn] at hBn
  exact LC D (RR Rs) hm hT hw hk hD hDn hin hBn (UN hmono) hs (fun vs w hb h => hend vs w hb (fun i hi => h i (by have := Nat.le_of_ble_eq_true hi; omega)))
end
end Go.Proofs.YtbbhjceelghadaaDoor.My
end

section
namespace Go.Proofs.YtbbhjceelghadaaDoor.My
open Go Go.RowKit Go.Proofs.YtbbhjceelghadaaDoorW.PrintWords Go.Proofs.YtbbhjceelghadaaDoorW.PrintLast
section
variable {P : Program} {ops : Array Oper} {Q : Exit → Act → World → Prop} {T : Bool × List (List Nat × List Nat)} {B : List Nat}
/-- What has come up when operation i is met. -/
def Met (B : List Nat) (D : List Tmp) (V : Nat → Value) (a0 a : Act) (i : Nat) : Prop :=
  (∀ s, D.contains s = false → a.tmps[s]? = a0.tmps[s]?) ∧ (∀ j, (B.getD i 0).testBit j = true → a.tmps[D.getD j 0]? = some (V j)) ∧ a.defers = a0.defers
/-- An operation that leaves the world. -/
def rD (P : Program) (ops : Array Oper) (Q : Exit → Act → World → Prop) (B : List Nat) (D : List Tmp) (V : Nat → Value) (a0 : Act) (Ok : World → Prop) (i : Nat) : Prop :=
  ∀ (a : Act) (w : World), Ok w → Met B D V a0 a i → ∃ oi, ops[i]? = some oi ∧ oi.dst = some (D.getD i 0) ∧ ∀ K : Act → World → Prop, K (a.put (some (D.getD i 0)) (V i)) w →
    if Region.wanted oi (yielded ops a.tmps) = true then Oper.wp P oi a w K Q else K (a.put (some (D.getD i 0)) undef) w
theorem yZ {D : List Tmp} {V : Nat → Value} {a0 : Act} {Ok : World → Prop} : ∀ i ∈ ([] : List Nat), rD P ops Q B D V a0 Ok i := fun _ h => by cases h
theorem jQ {D : List Tmp} {V : Nat → Value} {a0 : Act} {Ok : World → Prop} {i : Nat} {rs : List Nat} (h : rD P ops Q B D V a0 Ok i) (hs : ∀ j ∈ rs, rD P ops Q B D V a0 Ok j) : ∀ j ∈ i :: rs, rD P ops Q B D V a0 Ok j := fun j hj => by
  rcases List.mem_cons.1 hj with rfl | hj
  · exact h
  · exact hs j hj
/-- A call that panics. -/
theorem U5 {oi : Oper} {N : Option Tmp} {a : Act} {w : World} {K : Act → World → Prop} {f : FuncId} {fn : Func} {ops0 : Array Operand} {ts : Array TypeId} (hf : P.funcs[f]? = some fn) (hname : (fn.name == "runtime.NumGoroutine") = false) (hb : fn.body.isSome = true) (args : Array Value)
    (hw : Region.wanted oi (yielded ops a.tmps) = true) (hop : oi.op = .call { callee := .value (.func f), args := ops0, argTypes := ts }) (hargs : ops0.map a.eval = args)
    (h : Calls P f args w fun e w' => ∃ chain, e = .panicked chain ∧ Q (.panic chain) a w') : if Region.wanted oi (yielded ops a.tmps) = true then Oper.wp P oi a w K Q else K (a.put N undef) w := by
  have he := L8 hf hname hb args w
  have hrun : (execOp a.eval oi).run P w = .ok (.enter f args) w := by
    unfold execOp
    simp [hop, resolve, Deferred.ofValue, invoke, Act.eval, hargs, he]
  rw [if_pos hw]
  unfold Oper.wp
  rw [hrun, Oper.upon_enter]
  refine h.mono fun e w'' hh => ?_
  obtain ⟨chain, rfl, hk⟩ := hh
  exact hk
theorem yJ {id : Nat} {a0 : Act} {w0 : World} (D : List Tmp) (V : Nat → Value) (c : Nat) (Aft Fin : World → Prop) (L : List Nat) (Lp : List Nat) (T : Bool × List (List Nat × List Nat)) (B : List Nat) (hm : P.follows .mixedOrders = true)
    (hT : rtab .any ops = T) (hL : List.range ops.size = L) (hw : lU T.2 B = true) (hk : oN T.2 L = true) (hD : rU D = true) (hDn : D.length + 1 = ops.size)
    (hin : (D.all fun t => Nat.ble (t + 1) a0.tmps.size) = true) (hBn : (L.all fun i => Nat.ble (B.getD i 0) (2 ^ D.length - 1)) = true)
    (hLp : ((List.range D.length).all fun i => i == c || Lp.contains i) = true)
    (hlast : ((List.range D.length).all fun j => (B.getD D.length 0).testBit j) = true)
    (hpure : ∀ i ∈ Lp, rD P ops Q B D V a0 (fun w => w = w0.drew ∨ Aft w) i)
    (hcall : ∀ (a : Act), Met B D V a0 a c → ∃ oi, ops[c]? = some oi ∧ oi.dst = some (D.getD c 0) ∧ ∀ K : Act → World → Prop, (∀ w', Aft w' → K (a.put (some (D.getD c 0)) (V c)) w') →
      if Region.wanted oi (yielded ops a.tmps) = true then Oper.wp P oi a w0.drew K Q else K (a.put (some (D.getD c 0)) undef) w0.drew)
    (hc : Nat.ble (c + 1) D.length = true)
    (hstore : ∀ (a : Act) (w : World), Aft w → Met B D V a0 a D.length → ∃ om, ops[D.length]? = some om ∧ om.dst = none ∧ ∀ K : Act → World → Prop, (∀ w', Fin w' → K a w') →
      if Region.wanted om (yielded ops a.tmps) = true then Oper.wp P om a w K Q else K (a.put none undef) w)
    (hend : ∀ w, Fin w → Q .normal (jX a0 (fun _ => true) (entries D V)) w) :
    (Code.region id ops true).wp P Q a0 w0 := by
  subst hL
  have hTl : T.2.length = ops.size := by rw [← hT, mZ]
  have hcl : c < D.length := by have := Nat.le_of_ble_eq_true hc; omega
  refine pR (n := ops.size) (S := fun _ => True) (ds := []) (Array.replicate ops.size false) hm rfl rfl trivial (fun _ => ?_)
  have hall : ∀ {b : Nat → Bool}, (∀ j, j < D.length → b j = true) → jX a0 b (entries D V) = jX a0 (fun _ => true) (entries D V) := by
    intro b hb
    refine pY (fun e he => ?_)
    obtain ⟨j, hj⟩ := List.getElem?_of_mem he
    have hjl : j < D.length := by have := (List.getElem?_eq_some_iff.1 hj).1; rwa [kR] at this
    rw [kN hjl] at hj
    simp only [Option.some.injEq] at hj
    subst hj
    exact hb j hjl
  have hoffs : ∀ (b : Nat → Bool) s, D.contains s = false → (jX a0 b (entries D V)).tmps[s]? = a0.tmps[s]? := by
    intro b s hsD
    refine oK ?_
    rw [List.all_eq_true]
    intro e he
    obtain ⟨j, hj⟩ := List.getElem?_of_mem he
    have hjl : j < D.length := by have := (List.getElem?_eq_some_iff.1 hj).1; rwa [kR] at this
    rw [kN hjl] at hj
    simp only [Option.some.injEq] at hj
    subst hj
    simp only [Bool.not_eq_true', beq_eq_false_iff_ne]
    intro h
    have : D.contains s = true := by
      rw [List.contains_iff_mem, ← h, List.getD_eq_getElem?_getD, List.getElem?_eq_getElem hjl]
      exact List.getElem_mem hjl
    rw [this] at hsD
    cases hsD
  have hons : ∀ (b : Nat → Bool) j, j < D.length → b j = true → (jX a0 b (entries D V)).tmps[D.getD j 0]? = some (V j) := by
    intro b j hjD hbj
    refine xN (e := (j, D.getD j 0, V j)) j (kN hjD) ?_ hbj ?_
    · have := nO (vs := V) hD hjD
      rw [List.all_append, Bool.and_eq_true] at this
      have h2 := this.2
      rw [List.all_eq_true] at h2 ⊢
      intro x hx
      have := h2 x hx
      rw [Bool.and_eq_true] at this
      exact this.2
    · exact List.all_eq_true.1 hin (D.getD j 0) (by rw [List.getD_eq_getElem?_getD, List.getElem?_eq_getElem hjD]; exact List.getElem_mem hjD)
  refine inv_ (T := T) (B := B) (List.range ops.size) (fun b a w => a = jX a0 b (entries D V) ∧ (b D.length = true → (∀ j, j < D.length → b j = true) ∧ Fin w) ∧ (b D.length = false → if b c = true then Aft w else w = w0.drew)) hT hw hk ?_ ?_ ?_ ?_
  · simp only [Bool.and_eq_true, beq_iff_eq, List.length_range, and_true]
    rw [hTl]
    apply List.ext_getElem
    · simp [lof]
    · intro i h1 h2
      simp [lof] at h1 ⊢
      exact h1
  · refine ⟨?_, (fun h => by cases h), fun _ => by simp⟩
    have : ∀ (L : List (Nat × Tmp × Value)) (a : Act), jX a (fun _ => false) L = a := by
      intro L
      induction L with
      | nil => intro a; rfl
      | cons e L ih => intro a; unfold jX; rw [if_neg (by simp)]; exact ih a
    rw [this]
  · intro i hi
    have hil : i < ops.size := List.mem_range.1 hi
    intro b a w ⟨ha, hfin, hbef⟩ hb hon hoff
    have hdepb : ∀ j, (B.getD i 0).testBit j = true → j < D.length ∧ b j = true := by
      intro j hj
      have hjn : j < D.length := by
        rcases Nat.lt_or_ge j D.length with h | h
        · exact h
        · have h1 := List.all_eq_true.1 hBn i hi
          have h2 : B.getD i 0 ≤ 2 ^ D.length - 1 := Nat.le_of_ble_eq_true h1
          have h3 : B.getD i 0 < 2 ^ j := Nat.lt_of_le_of_lt h2 (Nat.lt_of_lt_of_le (Nat.sub_lt (Nat.two_pow_pos _) Nat.one_pos) (Nat.pow_le_pow_right (by decide) h))
          rw [Nat.testBit_lt_two_pow h3] at hj
          cases hj
      exact ⟨hjn, hon j (by rw [Bool.and_eq_true]; exact ⟨by simpa using (by omega : j < ops.size), hj⟩)⟩
    have hmet : Met B D V a0 a i := by
      subst ha
      exact ⟨hoffs b, fun j hj => hons b j (hdepb j hj).1 (hdepb j hj).2, (qU b _ _).2⟩
    by_cases hiD : i < D.length
    · have hne : b D.length = false := by
        cases hbD : b D.length with
        | false => rfl
        | true => rw [(hfin hbD).1 i hiD] at hb; cases hb
      have hbw := hbef hne
      have hup : up b i D.length = false := by rw [vF (by omega)]; exact hne
      have hnext : a.put (some (D.getD i 0)) (V i) = jX a0 (up b i) (entries D V) := by
        rw [ha]
        exact yK i hb (kN hiD) (by rw [xI]; congr 1; funext j; split <;> simp_all) (nO hD hiD)
      by_cases hic : i = c
      · subst hic
        rw [if_neg (by rw [hb]; decide)] at hbw
        subst hbw
        obtain ⟨oi, ho, hdst, hstep⟩ := hcall a hmet
        refine ⟨oi, ho, fun K hK => ?_⟩
        rw [hdst]
        refine hstep K fun w' hw' => hK.out _ _ ⟨hnext, (fun h => by rw [hup] at h; cases h), fun _ => ?_⟩
        rw [if_pos (uM b i)]
        exact hw'
      · have hLi : i ∈ Lp := by
          have := List.all_eq_true.1 hLp i (List.mem_range.2 hiD)
          rw [Bool.or_eq_true, beq_iff_eq] at this
          rcases this with h | h
          · exact absurd h hic
          · exact List.contains_iff_mem.1 h
        obtain ⟨oi, ho, hdst, hstep⟩ := hpure i hLi a w (by
          split at hbw
          · exact .inr hbw
          · exact .inl hbw) hmet
        refine ⟨oi, ho, fun K hK => ?_⟩
        rw [hdst]
        refine hstep K (hK.out _ _ ⟨hnext, (fun h => by rw [hup] at h; cases h), fun _ => ?_⟩)
        rw [vF (Ne.symm hic)]
        exact hbw
    · have hiD' : i = D.length := by omega
      subst hiD'
      have hbs : ∀ j, j < D.length → b j = true := fun j hj => (hdepb j (List.all_eq_true.1 hlast j (List.mem_range.2 hj))).2
      have hbw := hbef hb
      rw [if_pos (hbs c hcl)] at hbw
      have ha' : a = jX a0 (fun _ => true) (entries D V) := by rw [ha, hall hbs]
      subst ha'
      obtain ⟨om, ho, hdst, hstep⟩ := hstore _ w hbw hmet
      refine ⟨om, ho, fun K hK => ?_⟩
      rw [hdst]
      refine hstep K fun w' hw' => ?_
      refine hK.out _ _ ⟨?_, fun _ => ⟨fun j hj => by rw [vF (by omega)]; exact hbs j hj, hw'⟩, fun h => by rw [uM] at h; cases h⟩
      rw [hall (b := up b D.length) (fun j hj => by rw [vF (by omega)]; exact hbs j hj)]
  · intro b a w hallb ⟨ha, hfin, _⟩
    have hb : ∀ j, j < D.length + 1 → b j = true := fun j hj => hallb j (by simpa using (by omega : j < ops.size))
    have hf := hfin (hb _ (Nat.lt_succ_self _))
    rw [ha, hall hf.1]
    exact hend w hf.2
end
end Go.Proofs.YtbbhjceelghadaaDoor.My
end
