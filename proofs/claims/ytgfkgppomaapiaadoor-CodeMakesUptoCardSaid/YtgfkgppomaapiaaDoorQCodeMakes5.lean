/- Parts of the proof, one behind the other: CodeE, K39, K40, K41, RefP, RefN, RefE, ReadN, ReadL. -/
import Derived.Test.YtgfkgppomaapiaaDoorQCodeMakes4
import Derived.Lib.BufferMore
set_option linter.unusedVariables false
set_option linter.unusedSimpArgs false
section
namespace Go.Proofs.YtgfkgppomaapiaaDoor.K
open RowKit YtgfkgppomaapiaaDoorW.PrintWords YtgfkgppomaapiaaDoorW.PrintLast YtgfkgppomaapiaaDoorW.PrintMore My
def nums (l : List UInt8) : List Int := l.map fun c => (c.toNat : Int)
theorem jH (l : List UInt8) : (nums l).length = l.length := List.length_map ..
def encR (r : SRec) : List Int × Int := if jL r = true then (if 60000 < (recE r).length then ([], 3) else (nums (recE r), 0)) else ([], 1)
def code_Encode.f (a0_0 : Int) (a0_1 : Int) (a0_2 : Int) (l0_3 : List Int) (l0_4 : List jK) (a0_5 : Int) (l0_6 : List jW) (a0_7 : Int) (a0_8 : Int) (l0_9 : List jG) : Option (List Int × Int) :=
  some (encR ⟨a0_0, a0_1, a0_2, l0_3, l0_4, ⟨a0_5, l0_6⟩, a0_7, a0_8, l0_9⟩)
theorem pF {w : World} {B base : Nat} {v : Value} {l : List UInt8} (h : w.ownsRow B 5 1 v (Lib.byteCells l).length (Lib.byteCells l)) (hb : base ≤ B) : Kd.R (Kd.int .u8) 5 w base (fun _ => True) v (nums l) := by
  refine Kd.R_lower (Kd.R_of_own ?_ (fun _ _ => trivial)) hb
  have e : Lib.byteCells l = encs (Value.int .u8) (nums l) := by simp [Lib.byteCells, encs, nums]
  have e2 : (nums l).length = (Lib.byteCells l).length := by rw [jH, Lib.byteCells_length]
  rw [e2, ← e]
  exact h
theorem iZ (l : List Int) : (kY l).length = 1 + l.length := by unfold kY; rw [List.length_append, iP, zQ]; omega
def pK (w : World) (r : List Int × Int) (e : Ending) (w' : World) : Prop := ∃ v0_ : Value, e = .returned (.tuple #[v0_, .int .u16 r.2]) ∧ Kd.R (Kd.int .u8) 5 w' w.heap.size (fun _ => True) v0_ r.1 ∧ Below w.heap.size w w'
theorem VP (a1 a2 : Int) (l3 : List Int) (l4 : List jK) (a5 : Int) (l6 : List jW) (a7 a8 : Int) (l9 : List jG) : recE ⟨1, a1, a2, l3, l4, ⟨a5, l6⟩, a7, a8, l9⟩ = [] ++ layB 1 1 ++ layB a1 4 ++ kY l3 ++ jY l4 := by
  simp [recE, yK]
theorem UT (a1 a2 : Int) (l3 : List Int) (l4 : List jK) (a5 : Int) (l6 : List jW) (a7 a8 : Int) (l9 : List jG) : recE ⟨2, a1, a2, l3, l4, ⟨a5, l6⟩, a7, a8, l9⟩ = [] ++ layB 2 1 ++ layB a1 4 ++ layB a2 4 ++ kY l3 := by
  simp [recE, yK]
theorem VR (a1 a2 : Int) (l3 : List Int) (l4 : List jK) (a5 : Int) (l6 : List jW) (a7 a8 : Int) (l9 : List jG) : recE ⟨3, a1, a2, l3, l4, ⟨a5, l6⟩, a7, a8, l9⟩ = [] ++ layB 3 1 ++ layB a1 4 := by
  simp [recE, yK]
theorem VU (a1 a2 : Int) (l3 : List Int) (l4 : List jK) (a5 : Int) (l6 : List jW) (a7 a8 : Int) (l9 : List jG) : recE ⟨4, a1, a2, l3, l4, ⟨a5, l6⟩, a7, a8, l9⟩ = [] ++ layB 4 1 ++ layB a1 4 := by
  simp [recE, yK]
theorem UV (a1 a2 : Int) (l3 : List Int) (l4 : List jK) (a5 : Int) (l6 : List jW) (a7 a8 : Int) (l9 : List jG) : recE ⟨5, a1, a2, l3, l4, ⟨a5, l6⟩, a7, a8, l9⟩ = [] ++ layB 5 1 ++ layB a1 4 := by
  simp [recE, yK]
theorem VV (a1 a2 : Int) (l3 : List Int) (l4 : List jK) (a5 : Int) (l6 : List jW) (a7 a8 : Int) (l9 : List jG) : recE ⟨7, a1, a2, l3, l4, ⟨a5, l6⟩, a7, a8, l9⟩ = [] ++ layB 7 1 ++ layB a1 4 ++ layB a7 4 ++ layB a8 4 ++ jT l9 := by
  simp [recE, yK]
theorem V7 (a1 a2 : Int) (l3 : List Int) (l4 : List jK) (a5 : Int) (l6 : List jW) (a7 a8 : Int) (l9 : List jG) : recE ⟨6, a1, a2, l3, l4, ⟨a5, l6⟩, a7, a8, l9⟩ = [] ++ layB 6 1 ++ layB a1 4 ++ layB a5 4 ++ layB l6.length 1 ++ l6.flatMap mG := by
  simp [recE, yK, xA]
theorem uH (l : List jW) : (l.flatMap mG).length = 5 * l.length := by
  induction l with
  | nil => rfl
  | cons x l ih => rw [List.flatMap_cons, List.length_append, ih, mG, List.length_append, iP, iP, List.length_cons]; omega
theorem OQ (l : List jW) (k : Nat) : jU l (k : Int) = l.getD k xE := by unfold jU xE; rw [Int.toNat_natCast]
section
variable (a0 a1 a2 : Int) (A3 : Option Addr) (c3 : Nat) (l3 : List Int) (A4 : Option Addr) (c4 : Nat) (l4 : List jK) (a5 : Int) (A6 : Option Addr) (c6 : Nat) (l6 : List jW) (a7 a8 : Int) (A9 : Option Addr) (c9 : Nat) (l9 : List jG) (w : World)
  (h3 : Kd.C (Kd.int .i64) w A3 l3.length l3) (d3 : l3.length ≤ c3) (h4 : Kd.C k139 w A4 l4.length l4) (d4 : l4.length ≤ c4) (h6 : Kd.C k98 w A6 l6.length l6) (d6 : l6.length ≤ c6) (h9 : Kd.C k86 w A9 l9.length l9) (d9 : l9.length ≤ c9)
include h3 d3 h4 d4 h6 d6 h9 d9
set_option maxHeartbeats 8000000 in
set_option maxRecDepth 20000 in
theorem TF (hs : jL ⟨1, a1, a2, l3, l4, ⟨a5, l6⟩, a7, a8, l9⟩ = true) : Calls Tryd.prog 17 #[.agg #[.int .u8 1, .int .u32 a1, .int .u32 a2, .slice A3 l3.length c3, .slice A4 l4.length c4, .int .u32 a5, .slice A6 l6.length c6, .int .i64 a7, .int .i64 a8, .slice A9 l9.length c9]] w (pK w (encR ⟨1, a1, a2, l3, l4, ⟨a5, l6⟩, a7, a8, l9⟩)) := by
  have H3 := iD.mk h3; have H4 := iD.mk h4; have H6 := iD.mk h6; have H9 := iD.mk h9
  clear h3 h4 h6 h9
  have HS := iD.mk hs
  have hl3 : l3.length ≤ 6 ∧ (jY l4).length ≤ 5004 := by
    have h := HS.out
    rw [OU, Bool.and_eq_true, Bool.and_eq_true] at h
    exact ⟨oQ _ h.1.1, rF _ h.1.2⟩
  obtain ⟨q3, q4⟩ := hl3
  unfold encR
  rw [if_pos HS.out]
  have hm3 := lH H3.out
  have hm6 := lH H6.out
  obtain ⟨X, hX⟩ : ∃ X : List UInt8, X = recE ⟨1, a1, a2, l3, l4, ⟨a5, l6⟩, a7, a8, l9⟩ := ⟨_, rfl⟩
  rw [← hX]
  have HX := iD.mk hX
  have HLEN := iD.mk (show X.length = _ from congrArg List.length (hX.trans (VP _ _ _ _ _ _ _ _ _)))
  clear hs hX
  by_cases hbig : 60000 < X.length
  · rw [if_pos hbig]
    have hbigI : (60000 : Int) < (X.length : Int) := by omega
    clear hbig
    go_enter Tryd.func17, Tryd.ntmps17
    go_wp2_with (first | (go_at_call 19; refine (code_Sound.calls 1 a1 a2 A3 c3 l3 A4 c4 l4 a5 A6 c6 l6 a7 a8 A9 c9 l9 _ _ (Kd.C_below H3.out bel_) d3 (Kd.C_below H4.out bel_) d4 (Kd.C_below H6.out bel_) d6 (Kd.C_below H9.out bel_) d9 rfl).mono ?_; rintro e w1 ⟨rfl, hb1⟩; rw [HS.out]; have HBW := iD.mk (show Below w.heap.size w w1 from iL (iF (Below.refl _ _) _) hb1); have HBK := iD.mk (iO hb1 (jA rfl)); clear hb1; have HI0 := iD.mk (Bf.fresh w1); have HK0 := iD.mk ((Kp.refl w1.heap.size w1.heap.size w1).alloc (Nat.le_refl _) (.cells #[.slice none 0 0, .int .i64 0, .int .i8 0] 91)); obtain ⟨z0, z1, z2, z3, z4, z5, z6, z7, z8, z9, y0, y1, y2, y3, y4, y5, y6, y7, y8, y9⟩ := ten (jP (o := (.cells #[.slice none 0 0, .int .i64 0, .int .i8 0] 91)) HBK.out); clear y0 y1 y2 y3 y4 y5 y6 y7 y8 y9) | (go_at_call 49; refine (oG w1.heap.size w1.heap.size _ _ _ HI0.out HK0.out.1.size (by first | omega | (simp only [List.length_append, iP, List.length_nil, iZ]; omega))).mono ?_; rintro e w2 ⟨rfl, hI, hK⟩; have HI1 := iD.mk hI; have HK1 := iD.mk (HK0.out.trans hK); clear hI hK z0 z1 z2 z3 z4 z5 z6 z7 z8 z9; obtain ⟨z0, z1, z2, z3, z4, z5, z6, z7, z8, z9, y0, y1, y2, y3, y4, y5, y6, y7, y8, y9⟩ := ten (iO HK1.out.1 HBK.out); clear y0 y1 y2 y3 y4 y5 y6 y7 y8 y9) | (go_at_call 50; refine (lD w1.heap.size w1.heap.size _ _ _ HI1.out HK1.out.1.size (by first | omega | (simp only [List.length_append, iP, List.length_nil, iZ]; omega))).mono ?_; rintro e w3 ⟨rfl, hI, hK⟩; have HI2 := iD.mk hI; have HK2 := iD.mk (HK1.out.trans hK); clear hI hK z0 z1 z2 z3 z4 z5 z6 z7 z8 z9; obtain ⟨z0, z1, z2, z3, z4, z5, z6, z7, z8, z9, y0, y1, y2, y3, y4, y5, y6, y7, y8, y9⟩ := ten (iO HK2.out.1 HBK.out); clear y0 y1 y2 y3 y4 y5 y6 y7 y8 y9) | (go_at_call 51; refine (rG w1.heap.size _ _ _ l3 w1 _ HI2.out HK2.out.1 (Kd.C_below H3.out HBW.out) (by first | omega | (simp only [List.length_append, iP, List.length_nil, iZ]; omega))).mono ?_; rintro e w4 ⟨rfl, hI, hK⟩; have HI3 := iD.mk hI; have HK3 := iD.mk (HK2.out.trans hK); clear hI hK z0 z1 z2 z3 z4 z5 z6 z7 z8 z9; obtain ⟨z0, z1, z2, z3, z4, z5, z6, z7, z8, z9, y0, y1, y2, y3, y4, y5, y6, y7, y8, y9⟩ := ten (iO HK3.out.1 HBK.out); clear y0 y1 y2 y3 y4 y5 y6 y7 y8 y9) | (go_at_call 52; refine (vV w1.heap.size _ _ _ l4 w1 _ HI3.out HK3.out.1 (Kd.C_below H4.out HBW.out) (by first | omega | (simp only [List.length_append, iP, List.length_nil, iZ]; omega))).mono ?_; rintro e w5 ⟨rfl, hI, hK⟩; have HI4 := iD.mk hI; have HK4 := iD.mk (HK3.out.trans hK); clear hI hK z0 z1 z2 z3 z4 z5 z6 z7 z8 z9; obtain ⟨z0, z1, z2, z3, z4, z5, z6, z7, z8, z9, y0, y1, y2, y3, y4, y5, y6, y7, y8, y9⟩ := ten (iO HK4.out.1 HBK.out); clear y0 y1 y2 y3 y4 y5 y6 y7 y8 y9) | (go_at_call 55; refine (Tryd.Buffer_Len w1.heap.size w1.heap.size _ _ (HI4.out)).mono ?_; rintro e wl ⟨rfl, nl, rfl⟩; rw [Lib.byteCells_length, ← HLEN.out]))
    go_ret2
    exact ⟨_, rfl, Kd.R_nil _ _ _ _ _, by have hz := HBW.out; have hy := HK4.out.1; exact iG (iL hz hy) _⟩
  · rw [if_neg hbig]
    have hbigI : ¬ (60000 : Int) < (X.length : Int) := by omega
    clear hbig
    go_enter Tryd.func17, Tryd.ntmps17
    go_wp2_with (first | (go_at_call 19; refine (code_Sound.calls 1 a1 a2 A3 c3 l3 A4 c4 l4 a5 A6 c6 l6 a7 a8 A9 c9 l9 _ _ (Kd.C_below H3.out bel_) d3 (Kd.C_below H4.out bel_) d4 (Kd.C_below H6.out bel_) d6 (Kd.C_below H9.out bel_) d9 rfl).mono ?_; rintro e w1 ⟨rfl, hb1⟩; rw [HS.out]; have HBW := iD.mk (show Below w.heap.size w w1 from iL (iF (Below.refl _ _) _) hb1); have HBK := iD.mk (iO hb1 (jA rfl)); clear hb1; have HI0 := iD.mk (Bf.fresh w1); have HK0 := iD.mk ((Kp.refl w1.heap.size w1.heap.size w1).alloc (Nat.le_refl _) (.cells #[.slice none 0 0, .int .i64 0, .int .i8 0] 91)); obtain ⟨z0, z1, z2, z3, z4, z5, z6, z7, z8, z9, y0, y1, y2, y3, y4, y5, y6, y7, y8, y9⟩ := ten (jP (o := (.cells #[.slice none 0 0, .int .i64 0, .int .i8 0] 91)) HBK.out); clear y0 y1 y2 y3 y4 y5 y6 y7 y8 y9) | (go_at_call 49; refine (oG w1.heap.size w1.heap.size _ _ _ HI0.out HK0.out.1.size (by first | omega | (simp only [List.length_append, iP, List.length_nil, iZ]; omega))).mono ?_; rintro e w2 ⟨rfl, hI, hK⟩; have HI1 := iD.mk hI; have HK1 := iD.mk (HK0.out.trans hK); clear hI hK z0 z1 z2 z3 z4 z5 z6 z7 z8 z9; obtain ⟨z0, z1, z2, z3, z4, z5, z6, z7, z8, z9, y0, y1, y2, y3, y4, y5, y6, y7, y8, y9⟩ := ten (iO HK1.out.1 HBK.out); clear y0 y1 y2 y3 y4 y5 y6 y7 y8 y9) | (go_at_call 50; refine (lD w1.heap.size w1.heap.size _ _ _ HI1.out HK1.out.1.size (by first | omega | (simp only [List.length_append, iP, List.length_nil, iZ]; omega))).mono ?_; rintro e w3 ⟨rfl, hI, hK⟩; have HI2 := iD.mk hI; have HK2 := iD.mk (HK1.out.trans hK); clear hI hK z0 z1 z2 z3 z4 z5 z6 z7 z8 z9; obtain ⟨z0, z1, z2, z3, z4, z5, z6, z7, z8, z9, y0, y1, y2, y3, y4, y5, y6, y7, y8, y9⟩ := ten (iO HK2.out.1 HBK.out); clear y0 y1 y2 y3 y4 y5 y6 y7 y8 y9) | (go_at_call 51; refine (rG w1.heap.size _ _ _ l3 w1 _ HI2.out HK2.out.1 (Kd.C_below H3.out HBW.out) (by first | omega | (simp only [List.length_append, iP, List.length_nil, iZ]; omega))).mono ?_; rintro e w4 ⟨rfl, hI, hK⟩; have HI3 := iD.mk hI; have HK3 := iD.mk (HK2.out.trans hK); clear hI hK z0 z1 z2 z3 z4 z5 z6 z7 z8 z9; obtain ⟨z0, z1, z2, z3, z4, z5, z6, z7, z8, z9, y0, y1, y2, y3, y4, y5, y6, y7, y8, y9⟩ := ten (iO HK3.out.1 HBK.out); clear y0 y1 y2 y3 y4 y5 y6 y7 y8 y9) | (go_at_call 52; refine (vV w1.heap.size _ _ _ l4 w1 _ HI3.out HK3.out.1 (Kd.C_below H4.out HBW.out) (by first | omega | (simp only [List.length_append, iP, List.length_nil, iZ]; omega))).mono ?_; rintro e w5 ⟨rfl, hI, hK⟩; have HI4 := iD.mk hI; have HK4 := iD.mk (HK3.out.trans hK); clear hI hK z0 z1 z2 z3 z4 z5 z6 z7 z8 z9; obtain ⟨z0, z1, z2, z3, z4, z5, z6, z7, z8, z9, y0, y1, y2, y3, y4, y5, y6, y7, y8, y9⟩ := ten (iO HK4.out.1 HBK.out); clear y0 y1 y2 y3 y4 y5 y6 y7 y8 y9) | (go_at_call 55; refine (Tryd.Buffer_Len w1.heap.size w1.heap.size _ _ (HI4.out)).mono ?_; rintro e wl ⟨rfl, nl, rfl⟩; rw [Lib.byteCells_length, ← HLEN.out]) | (go_at_call 56; refine (Tryd.Buffer_Bytes w1.heap.size w1.heap.size _ _ (HI4.out.drewN _)).mono ?_; rintro e wb ⟨v, rfl, hv, nb, rfl⟩; have HV := iD.mk hv; clear hv))
    go_ret2
    exact ⟨_, rfl, by rw [HX.out, VP]; exact pF HV.out HBW.out.size, by have hz := HBW.out; have hy := HK4.out.1; exact iG (iL hz hy) _⟩
set_option maxHeartbeats 8000000 in
set_option maxRecDepth 20000 in
theorem UG (hs : jL ⟨2, a1, a2, l3, l4, ⟨a5, l6⟩, a7, a8, l9⟩ = true) : Calls Tryd.prog 17 #[.agg #[.int .u8 2, .int .u32 a1, .int .u32 a2, .slice A3 l3.length c3, .slice A4 l4.length c4, .int .u32 a5, .slice A6 l6.length c6, .int .i64 a7, .int .i64 a8, .slice A9 l9.length c9]] w (pK w (encR ⟨2, a1, a2, l3, l4, ⟨a5, l6⟩, a7, a8, l9⟩)) := by
  have H3 := iD.mk h3; have H4 := iD.mk h4; have H6 := iD.mk h6; have H9 := iD.mk h9
  clear h3 h4 h6 h9
  have HS := iD.mk hs
  have q3 : l3.length ≤ 6 := by
    have h := HS.out
    rw [Q4, Bool.and_eq_true] at h
    exact oQ _ h.1
  unfold encR
  rw [if_pos HS.out]
  have hm3 := lH H3.out
  have hm6 := lH H6.out
  obtain ⟨X, hX⟩ : ∃ X : List UInt8, X = recE ⟨2, a1, a2, l3, l4, ⟨a5, l6⟩, a7, a8, l9⟩ := ⟨_, rfl⟩
  rw [← hX]
  have HX := iD.mk hX
  have HLEN := iD.mk (show X.length = _ from congrArg List.length (hX.trans (UT _ _ _ _ _ _ _ _ _)))
  clear hs hX
  by_cases hbig : 60000 < X.length
  · rw [if_pos hbig]
    have hbigI : (60000 : Int) < (X.length : Int) := by omega
    clear hbig
    go_enter Tryd.func17, Tryd.ntmps17
    go_wp2_with (first | (go_at_call 19; refine (code_Sound.calls 2 a1 a2 A3 c3 l3 A4 c4 l4 a5 A6 c6 l6 a7 a8 A9 c9 l9 _ _ (Kd.C_below H3.out bel_) d3 (Kd.C_below H4.out bel_) d4 (Kd.C_below H6.out bel_) d6 (Kd.C_below H9.out bel_) d9 rfl).mono ?_; rintro e w1 ⟨rfl, hb1⟩; rw [HS.out]; have HBW := iD.mk (show Below w.heap.size w w1 from iL (iF (Below.refl _ _) _) hb1); have HBK := iD.mk (iO hb1 (jA rfl)); clear hb1; have HI0 := iD.mk (Bf.fresh w1); have HK0 := iD.mk ((Kp.refl w1.heap.size w1.heap.size w1).alloc (Nat.le_refl _) (.cells #[.slice none 0 0, .int .i64 0, .int .i8 0] 91)); obtain ⟨z0, z1, z2, z3, z4, z5, z6, z7, z8, z9, y0, y1, y2, y3, y4, y5, y6, y7, y8, y9⟩ := ten (jP (o := (.cells #[.slice none 0 0, .int .i64 0, .int .i8 0] 91)) HBK.out); clear y0 y1 y2 y3 y4 y5 y6 y7 y8 y9) | (go_at_call 49; refine (oG w1.heap.size w1.heap.size _ _ _ HI0.out HK0.out.1.size (by first | omega | (simp only [List.length_append, iP, List.length_nil, iZ]; omega))).mono ?_; rintro e w2 ⟨rfl, hI, hK⟩; have HI1 := iD.mk hI; have HK1 := iD.mk (HK0.out.trans hK); clear hI hK z0 z1 z2 z3 z4 z5 z6 z7 z8 z9; obtain ⟨z0, z1, z2, z3, z4, z5, z6, z7, z8, z9, y0, y1, y2, y3, y4, y5, y6, y7, y8, y9⟩ := ten (iO HK1.out.1 HBK.out); clear y0 y1 y2 y3 y4 y5 y6 y7 y8 y9) | (go_at_call 50; refine (lD w1.heap.size w1.heap.size _ _ _ HI1.out HK1.out.1.size (by first | omega | (simp only [List.length_append, iP, List.length_nil, iZ]; omega))).mono ?_; rintro e w3 ⟨rfl, hI, hK⟩; have HI2 := iD.mk hI; have HK2 := iD.mk (HK1.out.trans hK); clear hI hK z0 z1 z2 z3 z4 z5 z6 z7 z8 z9; obtain ⟨z0, z1, z2, z3, z4, z5, z6, z7, z8, z9, y0, y1, y2, y3, y4, y5, y6, y7, y8, y9⟩ := ten (iO HK2.out.1 HBK.out); clear y0 y1 y2 y3 y4 y5 y6 y7 y8 y9) | (go_at_call 50; refine (lD w1.heap.size w1.heap.size _ _ _ HI2.out HK2.out.1.size (by first | omega | (simp only [List.length_append, iP, List.length_nil, iZ]; omega))).mono ?_; rintro e w4 ⟨rfl, hI, hK⟩; have HI3 := iD.mk hI; have HK3 := iD.mk (HK2.out.trans hK); clear hI hK z0 z1 z2 z3 z4 z5 z6 z7 z8 z9; obtain ⟨z0, z1, z2, z3, z4, z5, z6, z7, z8, z9, y0, y1, y2, y3, y4, y5, y6, y7, y8, y9⟩ := ten (iO HK3.out.1 HBK.out); clear y0 y1 y2 y3 y4 y5 y6 y7 y8 y9) | (go_at_call 51; refine (rG w1.heap.size _ _ _ l3 w1 _ HI3.out HK3.out.1 (Kd.C_below H3.out HBW.out) (by first | omega | (simp only [List.length_append, iP, List.length_nil, iZ]; omega))).mono ?_; rintro e w5 ⟨rfl, hI, hK⟩; have HI4 := iD.mk hI; have HK4 := iD.mk (HK3.out.trans hK); clear hI hK z0 z1 z2 z3 z4 z5 z6 z7 z8 z9; obtain ⟨z0, z1, z2, z3, z4, z5, z6, z7, z8, z9, y0, y1, y2, y3, y4, y5, y6, y7, y8, y9⟩ := ten (iO HK4.out.1 HBK.out); clear y0 y1 y2 y3 y4 y5 y6 y7 y8 y9) | (go_at_call 55; refine (Tryd.Buffer_Len w1.heap.size w1.heap.size _ _ (HI4.out)).mono ?_; rintro e wl ⟨rfl, nl, rfl⟩; rw [Lib.byteCells_length, ← HLEN.out]))
    go_ret2
    exact ⟨_, rfl, Kd.R_nil _ _ _ _ _, by have hz := HBW.out; have hy := HK4.out.1; exact iG (iL hz hy) _⟩
  · rw [if_neg hbig]
    have hbigI : ¬ (60000 : Int) < (X.length : Int) := by omega
    clear hbig
    go_enter Tryd.func17, Tryd.ntmps17
    go_wp2_with (first | (go_at_call 19; refine (code_Sound.calls 2 a1 a2 A3 c3 l3 A4 c4 l4 a5 A6 c6 l6 a7 a8 A9 c9 l9 _ _ (Kd.C_below H3.out bel_) d3 (Kd.C_below H4.out bel_) d4 (Kd.C_below H6.out bel_) d6 (Kd.C_below H9.out bel_) d9 rfl).mono ?_; rintro e w1 ⟨rfl, hb1⟩; rw [HS.out]; have HBW := iD.mk (show Below w.heap.size w w1 from iL (iF (Below.refl _ _) _) hb1); have HBK := iD.mk (iO hb1 (jA rfl)); clear hb1; have HI0 := iD.mk (Bf.fresh w1); have HK0 := iD.mk ((Kp.refl w1.heap.size w1.heap.size w1).alloc (Nat.le_refl _) (.cells #[.slice none 0 0, .int .i64 0, .int .i8 0] 91)); obtain ⟨z0, z1, z2, z3, z4, z5, z6, z7, z8, z9, y0, y1, y2, y3, y4, y5, y6, y7, y8, y9⟩ := ten (jP (o := (.cells #[.slice none 0 0, .int .i64 0, .int .i8 0] 91)) HBK.out); clear y0 y1 y2 y3 y4 y5 y6 y7 y8 y9) | (go_at_call 49; refine (oG w1.heap.size w1.heap.size _ _ _ HI0.out HK0.out.1.size (by first | omega | (simp only [List.length_append, iP, List.length_nil, iZ]; omega))).mono ?_; rintro e w2 ⟨rfl, hI, hK⟩; have HI1 := iD.mk hI; have HK1 := iD.mk (HK0.out.trans hK); clear hI hK z0 z1 z2 z3 z4 z5 z6 z7 z8 z9; obtain ⟨z0, z1, z2, z3, z4, z5, z6, z7, z8, z9, y0, y1, y2, y3, y4, y5, y6, y7, y8, y9⟩ := ten (iO HK1.out.1 HBK.out); clear y0 y1 y2 y3 y4 y5 y6 y7 y8 y9) | (go_at_call 50; refine (lD w1.heap.size w1.heap.size _ _ _ HI1.out HK1.out.1.size (by first | omega | (simp only [List.length_append, iP, List.length_nil, iZ]; omega))).mono ?_; rintro e w3 ⟨rfl, hI, hK⟩; have HI2 := iD.mk hI; have HK2 := iD.mk (HK1.out.trans hK); clear hI hK z0 z1 z2 z3 z4 z5 z6 z7 z8 z9; obtain ⟨z0, z1, z2, z3, z4, z5, z6, z7, z8, z9, y0, y1, y2, y3, y4, y5, y6, y7, y8, y9⟩ := ten (iO HK2.out.1 HBK.out); clear y0 y1 y2 y3 y4 y5 y6 y7 y8 y9) | (go_at_call 50; refine (lD w1.heap.size w1.heap.size _ _ _ HI2.out HK2.out.1.size (by first | omega | (simp only [List.length_append, iP, List.length_nil, iZ]; omega))).mono ?_; rintro e w4 ⟨rfl, hI, hK⟩; have HI3 := iD.mk hI; have HK3 := iD.mk (HK2.out.trans hK); clear hI hK z0 z1 z2 z3 z4 z5 z6 z7 z8 z9; obtain ⟨z0, z1, z2, z3, z4, z5, z6, z7, z8, z9, y0, y1, y2, y3, y4, y5, y6, y7, y8, y9⟩ := ten (iO HK3.out.1 HBK.out); clear y0 y1 y2 y3 y4 y5 y6 y7 y8 y9) | (go_at_call 51; refine (rG w1.heap.size _ _ _ l3 w1 _ HI3.out HK3.out.1 (Kd.C_below H3.out HBW.out) (by first | omega | (simp only [List.length_append, iP, List.length_nil, iZ]; omega))).mono ?_; rintro e w5 ⟨rfl, hI, hK⟩; have HI4 := iD.mk hI; have HK4 := iD.mk (HK3.out.trans hK); clear hI hK z0 z1 z2 z3 z4 z5 z6 z7 z8 z9; obtain ⟨z0, z1, z2, z3, z4, z5, z6, z7, z8, z9, y0, y1, y2, y3, y4, y5, y6, y7, y8, y9⟩ := ten (iO HK4.out.1 HBK.out); clear y0 y1 y2 y3 y4 y5 y6 y7 y8 y9) | (go_at_call 55; refine (Tryd.Buffer_Len w1.heap.size w1.heap.size _ _ (HI4.out)).mono ?_; rintro e wl ⟨rfl, nl, rfl⟩; rw [Lib.byteCells_length, ← HLEN.out]) | (go_at_call 56; refine (Tryd.Buffer_Bytes w1.heap.size w1.heap.size _ _ (HI4.out.drewN _)).mono ?_; rintro e wb ⟨v, rfl, hv, nb, rfl⟩; have HV := iD.mk hv; clear hv))
    go_ret2
    exact ⟨_, rfl, by rw [HX.out, UT]; exact pF HV.out HBW.out.size, by have hz := HBW.out; have hy := HK4.out.1; exact iG (iL hz hy) _⟩
set_option maxHeartbeats 8000000 in
set_option maxRecDepth 20000 in
theorem TG (hs : jL ⟨3, a1, a2, l3, l4, ⟨a5, l6⟩, a7, a8, l9⟩ = true) : Calls Tryd.prog 17 #[.agg #[.int .u8 3, .int .u32 a1, .int .u32 a2, .slice A3 l3.length c3, .slice A4 l4.length c4, .int .u32 a5, .slice A6 l6.length c6, .int .i64 a7, .int .i64 a8, .slice A9 l9.length c9]] w (pK w (encR ⟨3, a1, a2, l3, l4, ⟨a5, l6⟩, a7, a8, l9⟩)) := by
  have H3 := iD.mk h3; have H4 := iD.mk h4; have H6 := iD.mk h6; have H9 := iD.mk h9
  clear h3 h4 h6 h9
  have HS := iD.mk hs
  unfold encR
  rw [if_pos HS.out]
  have hm3 := lH H3.out
  have hm6 := lH H6.out
  obtain ⟨X, hX⟩ : ∃ X : List UInt8, X = recE ⟨3, a1, a2, l3, l4, ⟨a5, l6⟩, a7, a8, l9⟩ := ⟨_, rfl⟩
  rw [← hX]
  have HX := iD.mk hX
  have HLEN := iD.mk (show X.length = _ from congrArg List.length (hX.trans (VR _ _ _ _ _ _ _ _ _)))
  clear hs hX
  by_cases hbig : 60000 < X.length
  · rw [if_pos hbig]
    have hbigI : (60000 : Int) < (X.length : Int) := by omega
    clear hbig
    go_enter Tryd.func17, Tryd.ntmps17
    go_wp2_with (first | (go_at_call 19; refine (code_Sound.calls 3 a1 a2 A3 c3 l3 A4 c4 l4 a5 A6 c6 l6 a7 a8 A9 c9 l9 _ _ (Kd.C_below H3.out bel_) d3 (Kd.C_below H4.out bel_) d4 (Kd.C_below H6.out bel_) d6 (Kd.C_below H9.out bel_) d9 rfl).mono ?_; rintro e w1 ⟨rfl, hb1⟩; rw [HS.out]; have HBW := iD.mk (show Below w.heap.size w w1 from iL (iF (Below.refl _ _) _) hb1); have HBK := iD.mk (iO hb1 (jA rfl)); clear hb1; have HI0 := iD.mk (Bf.fresh w1); have HK0 := iD.mk ((Kp.refl w1.heap.size w1.heap.size w1).alloc (Nat.le_refl _) (.cells #[.slice none 0 0, .int .i64 0, .int .i8 0] 91)); obtain ⟨z0, z1, z2, z3, z4, z5, z6, z7, z8, z9, y0, y1, y2, y3, y4, y5, y6, y7, y8, y9⟩ := ten (jP (o := (.cells #[.slice none 0 0, .int .i64 0, .int .i8 0] 91)) HBK.out); clear y0 y1 y2 y3 y4 y5 y6 y7 y8 y9) | (go_at_call 49; refine (oG w1.heap.size w1.heap.size _ _ _ HI0.out HK0.out.1.size (by first | omega | (simp only [List.length_append, iP, List.length_nil, iZ]; omega))).mono ?_; rintro e w2 ⟨rfl, hI, hK⟩; have HI1 := iD.mk hI; have HK1 := iD.mk (HK0.out.trans hK); clear hI hK z0 z1 z2 z3 z4 z5 z6 z7 z8 z9; obtain ⟨z0, z1, z2, z3, z4, z5, z6, z7, z8, z9, y0, y1, y2, y3, y4, y5, y6, y7, y8, y9⟩ := ten (iO HK1.out.1 HBK.out); clear y0 y1 y2 y3 y4 y5 y6 y7 y8 y9) | (go_at_call 50; refine (lD w1.heap.size w1.heap.size _ _ _ HI1.out HK1.out.1.size (by first | omega | (simp only [List.length_append, iP, List.length_nil, iZ]; omega))).mono ?_; rintro e w3 ⟨rfl, hI, hK⟩; have HI2 := iD.mk hI; have HK2 := iD.mk (HK1.out.trans hK); clear hI hK z0 z1 z2 z3 z4 z5 z6 z7 z8 z9; obtain ⟨z0, z1, z2, z3, z4, z5, z6, z7, z8, z9, y0, y1, y2, y3, y4, y5, y6, y7, y8, y9⟩ := ten (iO HK2.out.1 HBK.out); clear y0 y1 y2 y3 y4 y5 y6 y7 y8 y9) | (go_at_call 55; refine (Tryd.Buffer_Len w1.heap.size w1.heap.size _ _ (HI2.out)).mono ?_; rintro e wl ⟨rfl, nl, rfl⟩; rw [Lib.byteCells_length, ← HLEN.out]))
    go_ret2
    exact ⟨_, rfl, Kd.R_nil _ _ _ _ _, by have hz := HBW.out; have hy := HK2.out.1; exact iG (iL hz hy) _⟩
  · rw [if_neg hbig]
    have hbigI : ¬ (60000 : Int) < (X.length : Int) := by omega
    clear hbig
    go_enter Tryd.func17, Tryd.ntmps17
    go_wp2_with (first | (go_at_call 19; refine (code_Sound.calls 3 a1 a2 A3 c3 l3 A4 c4 l4 a5 A6 c6 l6 a7 a8 A9 c9 l9 _ _ (Kd.C_below H3.out bel_) d3 (Kd.C_below H4.out bel_) d4 (Kd.C_below H6.out bel_) d6 (Kd.C_below H9.out bel_) d9 rfl).mono ?_; rintro e w1 ⟨rfl, hb1⟩; rw [HS.out]; have HBW := iD.mk (show Below w.heap.size w w1 from iL (iF (Below.refl _ _) _) hb1); have HBK := iD.mk (iO hb1 (jA rfl)); clear hb1; have HI0 := iD.mk (Bf.fresh w1); have HK0 := iD.mk ((Kp.refl w1.heap.size w1.heap.size w1).alloc (Nat.le_refl _) (.cells #[.slice none 0 0, .int .i64 0, .int .i8 0] 91)); obtain ⟨z0, z1, z2, z3, z4, z5, z6, z7, z8, z9, y0, y1, y2, y3, y4, y5, y6, y7, y8, y9⟩ := ten (jP (o := (.cells #[.slice none 0 0, .int .i64 0, .int .i8 0] 91)) HBK.out); clear y0 y1 y2 y3 y4 y5 y6 y7 y8 y9) | (go_at_call 49; refine (oG w1.heap.size w1.heap.size _ _ _ HI0.out HK0.out.1.size (by first | omega | (simp only [List.length_append, iP, List.length_nil, iZ]; omega))).mono ?_; rintro e w2 ⟨rfl, hI, hK⟩; have HI1 := iD.mk hI; have HK1 := iD.mk (HK0.out.trans hK); clear hI hK z0 z1 z2 z3 z4 z5 z6 z7 z8 z9; obtain ⟨z0, z1, z2, z3, z4, z5, z6, z7, z8, z9, y0, y1, y2, y3, y4, y5, y6, y7, y8, y9⟩ := ten (iO HK1.out.1 HBK.out); clear y0 y1 y2 y3 y4 y5 y6 y7 y8 y9) | (go_at_call 50; refine (lD w1.heap.size w1.heap.size _ _ _ HI1.out HK1.out.1.size (by first | omega | (simp only [List.length_append, iP, List.length_nil, iZ]; omega))).mono ?_; rintro e w3 ⟨rfl, hI, hK⟩; have HI2 := iD.mk hI; have HK2 := iD.mk (HK1.out.trans hK); clear hI hK z0 z1 z2 z3 z4 z5 z6 z7 z8 z9; obtain ⟨z0, z1, z2, z3, z4, z5, z6, z7, z8, z9, y0, y1, y2, y3, y4, y5, y6, y7, y8, y9⟩ := ten (iO HK2.out.1 HBK.out); clear y0 y1 y2 y3 y4 y5 y6 y7 y8 y9) | (go_at_call 55; refine (Tryd.Buffer_Len w1.heap.size w1.heap.size _ _ (HI2.out)).mono ?_; rintro e wl ⟨rfl, nl, rfl⟩; rw [Lib.byteCells_length, ← HLEN.out]) | (go_at_call 56; refine (Tryd.Buffer_Bytes w1.heap.size w1.heap.size _ _ (HI2.out.drewN _)).mono ?_; rintro e wb ⟨v, rfl, hv, nb, rfl⟩; have HV := iD.mk hv; clear hv))
    go_ret2
    exact ⟨_, rfl, by rw [HX.out, VR]; exact pF HV.out HBW.out.size, by have hz := HBW.out; have hy := HK2.out.1; exact iG (iL hz hy) _⟩
set_option maxHeartbeats 8000000 in
set_option maxRecDepth 20000 in
theorem RQ (hs : jL ⟨4, a1, a2, l3, l4, ⟨a5, l6⟩, a7, a8, l9⟩ = true) : Calls Tryd.prog 17 #[.agg #[.int .u8 4, .int .u32 a1, .int .u32 a2, .slice A3 l3.length c3, .slice A4 l4.length c4, .int .u32 a5, .slice A6 l6.length c6, .int .i64 a7, .int .i64 a8, .slice A9 l9.length c9]] w (pK w (encR ⟨4, a1, a2, l3, l4, ⟨a5, l6⟩, a7, a8, l9⟩)) := by
  have H3 := iD.mk h3; have H4 := iD.mk h4; have H6 := iD.mk h6; have H9 := iD.mk h9
  clear h3 h4 h6 h9
  have HS := iD.mk hs
  unfold encR
  rw [if_pos HS.out]
  have hm3 := lH H3.out
  have hm6 := lH H6.out
  obtain ⟨X, hX⟩ : ∃ X : List UInt8, X = recE ⟨4, a1, a2, l3, l4, ⟨a5, l6⟩, a7, a8, l9⟩ := ⟨_, rfl⟩
  rw [← hX]
  have HX := iD.mk hX
  have HLEN := iD.mk (show X.length = _ from congrArg List.length (hX.trans (VU _ _ _ _ _ _ _ _ _)))
  clear hs hX
  by_cases hbig : 60000 < X.length
  · rw [if_pos hbig]
    have hbigI : (60000 : Int) < (X.length : Int) := by omega
    clear hbig
    go_enter Tryd.func17, Tryd.ntmps17
    go_wp2_with (first | (go_at_call 19; refine (code_Sound.calls 4 a1 a2 A3 c3 l3 A4 c4 l4 a5 A6 c6 l6 a7 a8 A9 c9 l9 _ _ (Kd.C_below H3.out bel_) d3 (Kd.C_below H4.out bel_) d4 (Kd.C_below H6.out bel_) d6 (Kd.C_below H9.out bel_) d9 rfl).mono ?_; rintro e w1 ⟨rfl, hb1⟩; rw [HS.out]; have HBW := iD.mk (show Below w.heap.size w w1 from iL (iF (Below.refl _ _) _) hb1); have HBK := iD.mk (iO hb1 (jA rfl)); clear hb1; have HI0 := iD.mk (Bf.fresh w1); have HK0 := iD.mk ((Kp.refl w1.heap.size w1.heap.size w1).alloc (Nat.le_refl _) (.cells #[.slice none 0 0, .int .i64 0, .int .i8 0] 91)); obtain ⟨z0, z1, z2, z3, z4, z5, z6, z7, z8, z9, y0, y1, y2, y3, y4, y5, y6, y7, y8, y9⟩ := ten (jP (o := (.cells #[.slice none 0 0, .int .i64 0, .int .i8 0] 91)) HBK.out); clear y0 y1 y2 y3 y4 y5 y6 y7 y8 y9) | (go_at_call 49; refine (oG w1.heap.size w1.heap.size _ _ _ HI0.out HK0.out.1.size (by first | omega | (simp only [List.length_append, iP, List.length_nil, iZ]; omega))).mono ?_; rintro e w2 ⟨rfl, hI, hK⟩; have HI1 := iD.mk hI; have HK1 := iD.mk (HK0.out.trans hK); clear hI hK z0 z1 z2 z3 z4 z5 z6 z7 z8 z9; obtain ⟨z0, z1, z2, z3, z4, z5, z6, z7, z8, z9, y0, y1, y2, y3, y4, y5, y6, y7, y8, y9⟩ := ten (iO HK1.out.1 HBK.out); clear y0 y1 y2 y3 y4 y5 y6 y7 y8 y9) | (go_at_call 50; refine (lD w1.heap.size w1.heap.size _ _ _ HI1.out HK1.out.1.size (by first | omega | (simp only [List.length_append, iP, List.length_nil, iZ]; omega))).mono ?_; rintro e w3 ⟨rfl, hI, hK⟩; have HI2 := iD.mk hI; have HK2 := iD.mk (HK1.out.trans hK); clear hI hK z0 z1 z2 z3 z4 z5 z6 z7 z8 z9; obtain ⟨z0, z1, z2, z3, z4, z5, z6, z7, z8, z9, y0, y1, y2, y3, y4, y5, y6, y7, y8, y9⟩ := ten (iO HK2.out.1 HBK.out); clear y0 y1 y2 y3 y4 y5 y6 y7 y8 y9) | (go_at_call 55; refine (Tryd.Buffer_Len w1.heap.size w1.heap.size _ _ (HI2.out)).mono ?_; rintro e wl ⟨rfl, nl, rfl⟩; rw [Lib.byteCells_length, ← HLEN.out]))
    go_ret2
    exact ⟨_, rfl, Kd.R_nil _ _ _ _ _, by have hz := HBW.out; have hy := HK2.out.1; exact iG (iL hz hy) _⟩
  · rw [if_neg hbig]
    have hbigI : ¬ (60000 : Int) < (X.length : Int) := by omega
    clear hbig
    go_enter Tryd.func17, Tryd.ntmps17
    go_wp2_with (first | (go_at_call 19; refine (code_Sound.calls 4 a1 a2 A3 c3 l3 A4 c4 l4 a5 A6 c6 l6 a7 a8 A9 c9 l9 _ _ (Kd.C_below H3.out bel_) d3 (Kd.C_below H4.out bel_) d4 (Kd.C_below H6.out bel_) d6 (Kd.C_below H9.out bel_) d9 rfl).mono ?_; rintro e w1 ⟨rfl, hb1⟩; rw [HS.out]; have HBW := iD.mk (show Below w.heap.size w w1 from iL (iF (Below.refl _ _) _) hb1); have HBK := iD.mk (iO hb1 (jA rfl)); clear hb1; have HI0 := iD.mk (Bf.fresh w1); have HK0 := iD.mk ((Kp.refl w1.heap.size w1.heap.size w1).alloc (Nat.le_refl _) (.cells #[.slice none 0 0, .int .i64 0, .int .i8 0] 91)); obtain ⟨z0, z1, z2, z3, z4, z5, z6, z7, z8, z9, y0, y1, y2, y3, y4, y5, y6, y7, y8, y9⟩ := ten (jP (o := (.cells #[.slice none 0 0, .int .i64 0, .int .i8 0] 91)) HBK.out); clear y0 y1 y2 y3 y4 y5 y6 y7 y8 y9) | (go_at_call 49; refine (oG w1.heap.size w1.heap.size _ _ _ HI0.out HK0.out.1.size (by first | omega | (simp only [List.length_append, iP, List.length_nil, iZ]; omega))).mono ?_; rintro e w2 ⟨rfl, hI, hK⟩; have HI1 := iD.mk hI; have HK1 := iD.mk (HK0.out.trans hK); clear hI hK z0 z1 z2 z3 z4 z5 z6 z7 z8 z9; obtain ⟨z0, z1, z2, z3, z4, z5, z6, z7, z8, z9, y0, y1, y2, y3, y4, y5, y6, y7, y8, y9⟩ := ten (iO HK1.out.1 HBK.out); clear y0 y1 y2 y3 y4 y5 y6 y7 y8 y9) | (go_at_call 50; refine (lD w1.heap.size w1.heap.size _ _ _ HI1.out HK1.out.1.size (by first | omega | (simp only [List.length_append, iP, List.length_nil, iZ]; omega))).mono ?_; rintro e w3 ⟨rfl, hI, hK⟩; have HI2 := iD.mk hI; have HK2 := iD.mk (HK1.out.trans hK); clear hI hK z0 z1 z2 z3 z4 z5 z6 z7 z8 z9; obtain ⟨z0, z1, z2, z3, z4, z5, z6, z7, z8, z9, y0, y1, y2, y3, y4, y5, y6, y7, y8, y9⟩ := ten (iO HK2.out.1 HBK.out); clear y0 y1 y2 y3 y4 y5 y6 y7 y8 y9) | (go_at_call 55; refine (Tryd.Buffer_Len w1.heap.size w1.heap.size _ _ (HI2.out)).mono ?_; rintro e wl ⟨rfl, nl, rfl⟩; rw [Lib.byteCells_length, ← HLEN.out]) | (go_at_call 56; refine (Tryd.Buffer_Bytes w1.heap.size w1.heap.size _ _ (HI2.out.drewN _)).mono ?_; rintro e wb ⟨v, rfl, hv, nb, rfl⟩; have HV := iD.mk hv; clear hv))
    go_ret2
    exact ⟨_, rfl, by rw [HX.out, VU]; exact pF HV.out HBW.out.size, by have hz := HBW.out; have hy := HK2.out.1; exact iG (iL hz hy) _⟩
set_option maxHeartbeats 8000000 in
set_option maxRecDepth 20000 in
theorem U2 (hs : jL ⟨5, a1, a2, l3, l4, ⟨a5, l6⟩, a7, a8, l9⟩ = true) : Calls Tryd.prog 17 #[.agg #[.int .u8 5, .int .u32 a1, .int .u32 a2, .slice A3 l3.length c3, .slice A4 l4.length c4, .int .u32 a5, .slice A6 l6.length c6, .int .i64 a7, .int .i64 a8, .slice A9 l9.length c9]] w (pK w (encR ⟨5, a1, a2, l3, l4, ⟨a5, l6⟩, a7, a8, l9⟩)) := by
  have H3 := iD.mk h3; have H4 := iD.mk h4; have H6 := iD.mk h6; have H9 := iD.mk h9
  clear h3 h4 h6 h9
  have HS := iD.mk hs
  unfold encR
  rw [if_pos HS.out]
  have hm3 := lH H3.out
  have hm6 := lH H6.out
  obtain ⟨X, hX⟩ : ∃ X : List UInt8, X = recE ⟨5, a1, a2, l3, l4, ⟨a5, l6⟩, a7, a8, l9⟩ := ⟨_, rfl⟩
  rw [← hX]
  have HX := iD.mk hX
  have HLEN := iD.mk (show X.length = _ from congrArg List.length (hX.trans (UV _ _ _ _ _ _ _ _ _)))
  clear hs hX
  by_cases hbig : 60000 < X.length
  · rw [if_pos hbig]
    have hbigI : (60000 : Int) < (X.length : Int) := by omega
    clear hbig
    go_enter Tryd.func17, Tryd.ntmps17
    go_wp2_with (first | (go_at_call 19; refine (code_Sound.calls 5 a1 a2 A3 c3 l3 A4 c4 l4 a5 A6 c6 l6 a7 a8 A9 c9 l9 _ _ (Kd.C_below H3.out bel_) d3 (Kd.C_below H4.out bel_) d4 (Kd.C_below H6.out bel_) d6 (Kd.C_below H9.out bel_) d9 rfl).mono ?_; rintro e w1 ⟨rfl, hb1⟩; rw [HS.out]; have HBW := iD.mk (show Below w.heap.size w w1 from iL (iF (Below.refl _ _) _) hb1); have HBK := iD.mk (iO hb1 (jA rfl)); clear hb1; have HI0 := iD.mk (Bf.fresh w1); have HK0 := iD.mk ((Kp.refl w1.heap.size w1.heap.size w1).alloc (Nat.le_refl _) (.cells #[.slice none 0 0, .int .i64 0, .int .i8 0] 91)); obtain ⟨z0, z1, z2, z3, z4, z5, z6, z7, z8, z9, y0, y1, y2, y3, y4, y5, y6, y7, y8, y9⟩ := ten (jP (o := (.cells #[.slice none 0 0, .int .i64 0, .int .i8 0] 91)) HBK.out); clear y0 y1 y2 y3 y4 y5 y6 y7 y8 y9) | (go_at_call 49; refine (oG w1.heap.size w1.heap.size _ _ _ HI0.out HK0.out.1.size (by first | omega | (simp only [List.length_append, iP, List.length_nil, iZ]; omega))).mono ?_; rintro e w2 ⟨rfl, hI, hK⟩; have HI1 := iD.mk hI; have HK1 := iD.mk (HK0.out.trans hK); clear hI hK z0 z1 z2 z3 z4 z5 z6 z7 z8 z9; obtain ⟨z0, z1, z2, z3, z4, z5, z6, z7, z8, z9, y0, y1, y2, y3, y4, y5, y6, y7, y8, y9⟩ := ten (iO HK1.out.1 HBK.out); clear y0 y1 y2 y3 y4 y5 y6 y7 y8 y9) | (go_at_call 50; refine (lD w1.heap.size w1.heap.size _ _ _ HI1.out HK1.out.1.size (by first | omega | (simp only [List.length_append, iP, List.length_nil, iZ]; omega))).mono ?_; rintro e w3 ⟨rfl, hI, hK⟩; have HI2 := iD.mk hI; have HK2 := iD.mk (HK1.out.trans hK); clear hI hK z0 z1 z2 z3 z4 z5 z6 z7 z8 z9; obtain ⟨z0, z1, z2, z3, z4, z5, z6, z7, z8, z9, y0, y1, y2, y3, y4, y5, y6, y7, y8, y9⟩ := ten (iO HK2.out.1 HBK.out); clear y0 y1 y2 y3 y4 y5 y6 y7 y8 y9) | (go_at_call 55; refine (Tryd.Buffer_Len w1.heap.size w1.heap.size _ _ (HI2.out)).mono ?_; rintro e wl ⟨rfl, nl, rfl⟩; rw [Lib.byteCells_length, ← HLEN.out]))
    go_ret2
    exact ⟨_, rfl, Kd.R_nil _ _ _ _ _, by have hz := HBW.out; have hy := HK2.out.1; exact iG (iL hz hy) _⟩
  · rw [if_neg hbig]
    have hbigI : ¬ (60000 : Int) < (X.length : Int) := by omega
    clear hbig
    go_enter Tryd.func17, Tryd.ntmps17
    go_wp2_with (first | (go_at_call 19; refine (code_Sound.calls 5 a1 a2 A3 c3 l3 A4 c4 l4 a5 A6 c6 l6 a7 a8 A9 c9 l9 _ _ (Kd.C_below H3.out bel_) d3 (Kd.C_below H4.out bel_) d4 (Kd.C_below H6.out bel_) d6 (Kd.C_below H9.out bel_) d9 rfl).mono ?_; rintro e w1 ⟨rfl, hb1⟩; rw [HS.out]; have HBW := iD.mk (show Below w.heap.size w w1 from iL (iF (Below.refl _ _) _) hb1); have HBK := iD.mk (iO hb1 (jA rfl)); clear hb1; have HI0 := iD.mk (Bf.fresh w1); have HK0 := iD.mk ((Kp.refl w1.heap.size w1.heap.size w1).alloc (Nat.le_refl _) (.cells #[.slice none 0 0, .int .i64 0, .int .i8 0] 91)); obtain ⟨z0, z1, z2, z3, z4, z5, z6, z7, z8, z9, y0, y1, y2, y3, y4, y5, y6, y7, y8, y9⟩ := ten (jP (o := (.cells #[.slice none 0 0, .int .i64 0, .int .i8 0] 91)) HBK.out); clear y0 y1 y2 y3 y4 y5 y6 y7 y8 y9) | (go_at_call 49; refine (oG w1.heap.size w1.heap.size _ _ _ HI0.out HK0.out.1.size (by first | omega | (simp only [List.length_append, iP, List.length_nil, iZ]; omega))).mono ?_; rintro e w2 ⟨rfl, hI, hK⟩; have HI1 := iD.mk hI; have HK1 := iD.mk (HK0.out.trans hK); clear hI hK z0 z1 z2 z3 z4 z5 z6 z7 z8 z9; obtain ⟨z0, z1, z2, z3, z4, z5, z6, z7, z8, z9, y0, y1, y2, y3, y4, y5, y6, y7, y8, y9⟩ := ten (iO HK1.out.1 HBK.out); clear y0 y1 y2 y3 y4 y5 y6 y7 y8 y9) | (go_at_call 50; refine (lD w1.heap.size w1.heap.size _ _ _ HI1.out HK1.out.1.size (by first | omega | (simp only [List.length_append, iP, List.length_nil, iZ]; omega))).mono ?_; rintro e w3 ⟨rfl, hI, hK⟩; have HI2 := iD.mk hI; have HK2 := iD.mk (HK1.out.trans hK); clear hI hK z0 z1 z2 z3 z4 z5 z6 z7 z8 z9; obtain ⟨z0, z1, z2, z3, z4, z5, z6, z7, z8, z9, y0, y1, y2, y3, y4, y5, y6, y7, y8, y9⟩ := ten (iO HK2.out.1 HBK.out); clear y0 y1 y2 y3 y4 y5 y6 y7 y8 y9) | (go_at_call 55; refine (Tryd.Buffer_Len w1.heap.size w1.heap.size _ _ (HI2.out)).mono ?_; rintro e wl ⟨rfl, nl, rfl⟩; rw [Lib.byteCells_length, ← HLEN.out]) | (go_at_call 56; refine (Tryd.Buffer_Bytes w1.heap.size w1.heap.size _ _ (HI2.out.drewN _)).mono ?_; rintro e wb ⟨v, rfl, hv, nb, rfl⟩; have HV := iD.mk hv; clear hv))
    go_ret2
    exact ⟨_, rfl, by rw [HX.out, UV]; exact pF HV.out HBW.out.size, by have hz := HBW.out; have hy := HK2.out.1; exact iG (iL hz hy) _⟩
set_option maxHeartbeats 8000000 in
set_option maxRecDepth 20000 in
theorem TA (hs : jL ⟨7, a1, a2, l3, l4, ⟨a5, l6⟩, a7, a8, l9⟩ = true) : Calls Tryd.prog 17 #[.agg #[.int .u8 7, .int .u32 a1, .int .u32 a2, .slice A3 l3.length c3, .slice A4 l4.length c4, .int .u32 a5, .slice A6 l6.length c6, .int .i64 a7, .int .i64 a8, .slice A9 l9.length c9]] w (pK w (encR ⟨7, a1, a2, l3, l4, ⟨a5, l6⟩, a7, a8, l9⟩)) := by
  have H3 := iD.mk h3; have H4 := iD.mk h4; have H6 := iD.mk h6; have H9 := iD.mk h9
  clear h3 h4 h6 h9
  have HS := iD.mk hs
  have q9 : (jT l9).length ≤ 25040004 := by
    have h := HS.out
    rw [P6, Bool.and_eq_true, Bool.and_eq_true, Bool.and_eq_true, Bool.and_eq_true, Bool.and_eq_true, Bool.and_eq_true] at h
    exact qQ _ h.1.1.1.1.1.1 (by have := of_decide_eq_true h.1.1.1.1.1.2; omega)
  unfold encR
  rw [if_pos HS.out]
  have hm3 := lH H3.out
  have hm6 := lH H6.out
  obtain ⟨X, hX⟩ : ∃ X : List UInt8, X = recE ⟨7, a1, a2, l3, l4, ⟨a5, l6⟩, a7, a8, l9⟩ := ⟨_, rfl⟩
  rw [← hX]
  have HX := iD.mk hX
  have HLEN := iD.mk (show X.length = _ from congrArg List.length (hX.trans (VV _ _ _ _ _ _ _ _ _)))
  clear hs hX
  by_cases hbig : 60000 < X.length
  · rw [if_pos hbig]
    have hbigI : (60000 : Int) < (X.length : Int) := by omega
    clear hbig
    go_enter Tryd.func17, Tryd.ntmps17
    go_wp2_with (first | (go_at_call 19; refine (code_Sound.calls 7 a1 a2 A3 c3 l3 A4 c4 l4 a5 A6 c6 l6 a7 a8 A9 c9 l9 _ _ (Kd.C_below H3.out bel_) d3 (Kd.C_below H4.out bel_) d4 (Kd.C_below H6.out bel_) d6 (Kd.C_below H9.out bel_) d9 rfl).mono ?_; rintro e w1 ⟨rfl, hb1⟩; rw [HS.out]; have HBW := iD.mk (show Below w.heap.size w w1 from iL (iF (Below.refl _ _) _) hb1); have HBK := iD.mk (iO hb1 (jA rfl)); clear hb1; have HI0 := iD.mk (Bf.fresh w1); have HK0 := iD.mk ((Kp.refl w1.heap.size w1.heap.size w1).alloc (Nat.le_refl _) (.cells #[.slice none 0 0, .int .i64 0, .int .i8 0] 91)); obtain ⟨z0, z1, z2, z3, z4, z5, z6, z7, z8, z9, y0, y1, y2, y3, y4, y5, y6, y7, y8, y9⟩ := ten (jP (o := (.cells #[.slice none 0 0, .int .i64 0, .int .i8 0] 91)) HBK.out); clear y0 y1 y2 y3 y4 y5 y6 y7 y8 y9) | (go_at_call 49; refine (oG w1.heap.size w1.heap.size _ _ _ HI0.out HK0.out.1.size (by first | omega | (simp only [List.length_append, iP, List.length_nil, iZ]; omega))).mono ?_; rintro e w2 ⟨rfl, hI, hK⟩; have HI1 := iD.mk hI; have HK1 := iD.mk (HK0.out.trans hK); clear hI hK z0 z1 z2 z3 z4 z5 z6 z7 z8 z9; obtain ⟨z0, z1, z2, z3, z4, z5, z6, z7, z8, z9, y0, y1, y2, y3, y4, y5, y6, y7, y8, y9⟩ := ten (iO HK1.out.1 HBK.out); clear y0 y1 y2 y3 y4 y5 y6 y7 y8 y9) | (go_at_call 50; refine (lD w1.heap.size w1.heap.size _ _ _ HI1.out HK1.out.1.size (by first | omega | (simp only [List.length_append, iP, List.length_nil, iZ]; omega))).mono ?_; rintro e w3 ⟨rfl, hI, hK⟩; have HI2 := iD.mk hI; have HK2 := iD.mk (HK1.out.trans hK); clear hI hK z0 z1 z2 z3 z4 z5 z6 z7 z8 z9; obtain ⟨z0, z1, z2, z3, z4, z5, z6, z7, z8, z9, y0, y1, y2, y3, y4, y5, y6, y7, y8, y9⟩ := ten (iO HK2.out.1 HBK.out); clear y0 y1 y2 y3 y4 y5 y6 y7 y8 y9) | (go_at_call 53; refine (nM w1.heap.size w1.heap.size _ _ _ HI2.out HK2.out.1.size (by first | omega | (simp only [List.length_append, iP, List.length_nil, iZ]; omega))).mono ?_; rintro e w4 ⟨rfl, hI, hK⟩; have HI3 := iD.mk hI; have HK3 := iD.mk (HK2.out.trans hK); clear hI hK z0 z1 z2 z3 z4 z5 z6 z7 z8 z9; obtain ⟨z0, z1, z2, z3, z4, z5, z6, z7, z8, z9, y0, y1, y2, y3, y4, y5, y6, y7, y8, y9⟩ := ten (iO HK3.out.1 HBK.out); clear y0 y1 y2 y3 y4 y5 y6 y7 y8 y9) | (go_at_call 53; refine (nM w1.heap.size w1.heap.size _ _ _ HI3.out HK3.out.1.size (by first | omega | (simp only [List.length_append, iP, List.length_nil, iZ]; omega))).mono ?_; rintro e w5 ⟨rfl, hI, hK⟩; have HI4 := iD.mk hI; have HK4 := iD.mk (HK3.out.trans hK); clear hI hK z0 z1 z2 z3 z4 z5 z6 z7 z8 z9; obtain ⟨z0, z1, z2, z3, z4, z5, z6, z7, z8, z9, y0, y1, y2, y3, y4, y5, y6, y7, y8, y9⟩ := ten (iO HK4.out.1 HBK.out); clear y0 y1 y2 y3 y4 y5 y6 y7 y8 y9) | (go_at_call 54; refine (yC w1.heap.size _ _ _ l9 w1 _ HI4.out HK4.out.1 (Kd.C_below H9.out HBW.out) (by first | omega | (simp only [List.length_append, iP, List.length_nil, iZ]; omega))).mono ?_; rintro e w6 ⟨rfl, hI, hK⟩; have HI5 := iD.mk hI; have HK5 := iD.mk (HK4.out.trans hK); clear hI hK z0 z1 z2 z3 z4 z5 z6 z7 z8 z9; obtain ⟨z0, z1, z2, z3, z4, z5, z6, z7, z8, z9, y0, y1, y2, y3, y4, y5, y6, y7, y8, y9⟩ := ten (iO HK5.out.1 HBK.out); clear y0 y1 y2 y3 y4 y5 y6 y7 y8 y9) | (go_at_call 55; refine (Tryd.Buffer_Len w1.heap.size w1.heap.size _ _ (HI5.out)).mono ?_; rintro e wl ⟨rfl, nl, rfl⟩; rw [Lib.byteCells_length, ← HLEN.out]))
    go_ret2
    exact ⟨_, rfl, Kd.R_nil _ _ _ _ _, by have hz := HBW.out; have hy := HK5.out.1; exact iG (iL hz hy) _⟩
  · rw [if_neg hbig]
    have hbigI : ¬ (60000 : Int) < (X.length : Int) := by omega
    clear hbig
    go_enter Tryd.func17, Tryd.ntmps17
    go_wp2_with (first | (go_at_call 19; refine (code_Sound.calls 7 a1 a2 A3 c3 l3 A4 c4 l4 a5 A6 c6 l6 a7 a8 A9 c9 l9 _ _ (Kd.C_below H3.out bel_) d3 (Kd.C_below H4.out bel_) d4 (Kd.C_below H6.out bel_) d6 (Kd.C_below H9.out bel_) d9 rfl).mono ?_; rintro e w1 ⟨rfl, hb1⟩; rw [HS.out]; have HBW := iD.mk (show Below w.heap.size w w1 from iL (iF (Below.refl _ _) _) hb1); have HBK := iD.mk (iO hb1 (jA rfl)); clear hb1; have HI0 := iD.mk (Bf.fresh w1); have HK0 := iD.mk ((Kp.refl w1.heap.size w1.heap.size w1).alloc (Nat.le_refl _) (.cells #[.slice none 0 0, .int .i64 0, .int .i8 0] 91)); obtain ⟨z0, z1, z2, z3, z4, z5, z6, z7, z8, z9, y0, y1, y2, y3, y4, y5, y6, y7, y8, y9⟩ := ten (jP (o := (.cells #[.slice none 0 0, .int .i64 0, .int .i8 0] 91)) HBK.out); clear y0 y1 y2 y3 y4 y5 y6 y7 y8 y9) | (go_at_call 49; refine (oG w1.heap.size w1.heap.size _ _ _ HI0.out HK0.out.1.size (by first | omega | (simp only [List.length_append, iP, List.length_nil, iZ]; omega))).mono ?_; rintro e w2 ⟨rfl, hI, hK⟩; have HI1 := iD.mk hI; have HK1 := iD.mk (HK0.out.trans hK); clear hI hK z0 z1 z2 z3 z4 z5 z6 z7 z8 z9; obtain ⟨z0, z1, z2, z3, z4, z5, z6, z7, z8, z9, y0, y1, y2, y3, y4, y5, y6, y7, y8, y9⟩ := ten (iO HK1.out.1 HBK.out); clear y0 y1 y2 y3 y4 y5 y6 y7 y8 y9) | (go_at_call 50; refine (lD w1.heap.size w1.heap.size _ _ _ HI1.out HK1.out.1.size (by first | omega | (simp only [List.length_append, iP, List.length_nil, iZ]; omega))).mono ?_; rintro e w3 ⟨rfl, hI, hK⟩; have HI2 := iD.mk hI; have HK2 := iD.mk (HK1.out.trans hK); clear hI hK z0 z1 z2 z3 z4 z5 z6 z7 z8 z9; obtain ⟨z0, z1, z2, z3, z4, z5, z6, z7, z8, z9, y0, y1, y2, y3, y4, y5, y6, y7, y8, y9⟩ := ten (iO HK2.out.1 HBK.out); clear y0 y1 y2 y3 y4 y5 y6 y7 y8 y9) | (go_at_call 53; refine (nM w1.heap.size w1.heap.size _ _ _ HI2.out HK2.out.1.size (by first | omega | (simp only [List.length_append, iP, List.length_nil, iZ]; omega))).mono ?_; rintro e w4 ⟨rfl, hI, hK⟩; have HI3 := iD.mk hI; have HK3 := iD.mk (HK2.out.trans hK); clear hI hK z0 z1 z2 z3 z4 z5 z6 z7 z8 z9; obtain ⟨z0, z1, z2, z3, z4, z5, z6, z7, z8, z9, y0, y1, y2, y3, y4, y5, y6, y7, y8, y9⟩ := ten (iO HK3.out.1 HBK.out); clear y0 y1 y2 y3 y4 y5 y6 y7 y8 y9) | (go_at_call 53; refine (nM w1.heap.size w1.heap.size _ _ _ HI3.out HK3.out.1.size (by first | omega | (simp only [List.length_append, iP, List.length_nil, iZ]; omega))).mono ?_; rintro e w5 ⟨rfl, hI, hK⟩; have HI4 := iD.mk hI; have HK4 := iD.mk (HK3.out.trans hK); clear hI hK z0 z1 z2 z3 z4 z5 z6 z7 z8 z9; obtain ⟨z0, z1, z2, z3, z4, z5, z6, z7, z8, z9, y0, y1, y2, y3, y4, y5, y6, y7, y8, y9⟩ := ten (iO HK4.out.1 HBK.out); clear y0 y1 y2 y3 y4 y5 y6 y7 y8 y9) | (go_at_call 54; refine (yC w1.heap.size _ _ _ l9 w1 _ HI4.out HK4.out.1 (Kd.C_below H9.out HBW.out) (by first | omega | (simp only [List.length_append, iP, List.length_nil, iZ]; omega))).mono ?_; rintro e w6 ⟨rfl, hI, hK⟩; have HI5 := iD.mk hI; have HK5 := iD.mk (HK4.out.trans hK); clear hI hK z0 z1 z2 z3 z4 z5 z6 z7 z8 z9; obtain ⟨z0, z1, z2, z3, z4, z5, z6, z7, z8, z9, y0, y1, y2, y3, y4, y5, y6, y7, y8, y9⟩ := ten (iO HK5.out.1 HBK.out); clear y0 y1 y2 y3 y4 y5 y6 y7 y8 y9) | (go_at_call 55; refine (Tryd.Buffer_Len w1.heap.size w1.heap.size _ _ (HI5.out)).mono ?_; rintro e wl ⟨rfl, nl, rfl⟩; rw [Lib.byteCells_length, ← HLEN.out]) | (go_at_call 56; refine (Tryd.Buffer_Bytes w1.heap.size w1.heap.size _ _ (HI5.out.drewN _)).mono ?_; rintro e wb ⟨v, rfl, hv, nb, rfl⟩; have HV := iD.mk hv; clear hv))
    go_ret2
    exact ⟨_, rfl, by rw [HX.out, VV]; exact pF HV.out HBW.out.size, by have hz := HBW.out; have hy := HK5.out.1; exact iG (iL hz hy) _⟩
set_option maxHeartbeats 8000000 in
set_option maxRecDepth 20000 in
theorem TC (hs : jL ⟨6, a1, a2, l3, l4, ⟨a5, l6⟩, a7, a8, l9⟩ = true) : Calls Tryd.prog 17 #[.agg #[.int .u8 6, .int .u32 a1, .int .u32 a2, .slice A3 l3.length c3, .slice A4 l4.length c4, .int .u32 a5, .slice A6 l6.length c6, .int .i64 a7, .int .i64 a8, .slice A9 l9.length c9]] w (pK w (encR ⟨6, a1, a2, l3, l4, ⟨a5, l6⟩, a7, a8, l9⟩)) := by
  have H3 := iD.mk h3; have H4 := iD.mk h4; have H6 := iD.mk h6; have H9 := iD.mk h9
  clear h3 h4 h6 h9
  have HS := iD.mk hs
  have q6 : l6.length ≤ 40 := by
    have h := HS.out
    rw [PI, Bool.and_eq_true, Bool.and_eq_true, Bool.and_eq_true] at h
    have := of_decide_eq_true h.1.1.2
    omega
  unfold encR
  rw [if_pos HS.out]
  have hm3 := lH H3.out
  have hm6 := lH H6.out
  obtain ⟨X, hX⟩ : ∃ X : List UInt8, X = recE ⟨6, a1, a2, l3, l4, ⟨a5, l6⟩, a7, a8, l9⟩ := ⟨_, rfl⟩
  rw [← hX]
  have HX := iD.mk hX
  have HLEN := iD.mk (show X.length = _ from congrArg List.length (hX.trans (V7 _ _ _ _ _ _ _ _ _)))
  clear hs hX
  by_cases hbig : 60000 < X.length
  · rw [if_pos hbig]
    have hbigI : (60000 : Int) < (X.length : Int) := by omega
    clear hbig
    go_enter Tryd.func17, Tryd.ntmps17
    go_wp2_with (first | (go_at_call 19; refine (code_Sound.calls 6 a1 a2 A3 c3 l3 A4 c4 l4 a5 A6 c6 l6 a7 a8 A9 c9 l9 _ _ (Kd.C_below H3.out bel_) d3 (Kd.C_below H4.out bel_) d4 (Kd.C_below H6.out bel_) d6 (Kd.C_below H9.out bel_) d9 rfl).mono ?_; rintro e w1 ⟨rfl, hb1⟩; rw [HS.out]; have HBW := iD.mk (show Below w.heap.size w w1 from iL (iF (Below.refl _ _) _) hb1); have HBK := iD.mk (iO hb1 (jA rfl)); clear hb1; have HI0 := iD.mk (Bf.fresh w1); have HK0 := iD.mk ((Kp.refl w1.heap.size w1.heap.size w1).alloc (Nat.le_refl _) (.cells #[.slice none 0 0, .int .i64 0, .int .i8 0] 91)); obtain ⟨z0, z1, z2, z3, z4, z5, z6, z7, z8, z9, y0, y1, y2, y3, y4, y5, y6, y7, y8, y9⟩ := ten (jP (o := (.cells #[.slice none 0 0, .int .i64 0, .int .i8 0] 91)) HBK.out); clear y0 y1 y2 y3 y4 y5 y6 y7 y8 y9) | (go_at_call 49; refine (oG w1.heap.size w1.heap.size _ _ _ HI0.out HK0.out.1.size (by first | omega | (simp only [List.length_append, iP, List.length_nil, iZ]; omega))).mono ?_; rintro e w2 ⟨rfl, hI, hK⟩; have HI1 := iD.mk hI; have HK1 := iD.mk (HK0.out.trans hK); clear hI hK z0 z1 z2 z3 z4 z5 z6 z7 z8 z9; obtain ⟨z0, z1, z2, z3, z4, z5, z6, z7, z8, z9, y0, y1, y2, y3, y4, y5, y6, y7, y8, y9⟩ := ten (iO HK1.out.1 HBK.out); clear y0 y1 y2 y3 y4 y5 y6 y7 y8 y9) | (go_at_call 50; refine (lD w1.heap.size w1.heap.size _ _ _ HI1.out HK1.out.1.size (by first | omega | (simp only [List.length_append, iP, List.length_nil, iZ]; omega))).mono ?_; rintro e w3 ⟨rfl, hI, hK⟩; have HI2 := iD.mk hI; have HK2 := iD.mk (HK1.out.trans hK); clear hI hK z0 z1 z2 z3 z4 z5 z6 z7 z8 z9; obtain ⟨z0, z1, z2, z3, z4, z5, z6, z7, z8, z9, y0, y1, y2, y3, y4, y5, y6, y7, y8, y9⟩ := ten (iO HK2.out.1 HBK.out); clear y0 y1 y2 y3 y4 y5 y6 y7 y8 y9) | (go_at_call 50; refine (lD w1.heap.size w1.heap.size _ _ _ HI2.out HK2.out.1.size (by first | omega | (simp only [List.length_append, iP, List.length_nil, iZ]; omega))).mono ?_; rintro e w4 ⟨rfl, hI, hK⟩; have HI3 := iD.mk hI; have HK3 := iD.mk (HK2.out.trans hK); clear hI hK z0 z1 z2 z3 z4 z5 z6 z7 z8 z9; obtain ⟨z0, z1, z2, z3, z4, z5, z6, z7, z8, z9, y0, y1, y2, y3, y4, y5, y6, y7, y8, y9⟩ := ten (iO HK3.out.1 HBK.out); clear y0 y1 y2 y3 y4 y5 y6 y7 y8 y9) | (go_at_call 53; refine (pM w1.heap.size w1.heap.size _ _ _ HI3.out HK3.out.1.size (by first | omega | (simp only [List.length_append, iP, List.length_nil, iZ]; omega))).mono ?_; rintro e w5 ⟨rfl, hI, hK⟩; have HI4 := iD.mk hI; have HK4 := iD.mk (HK3.out.trans hK); clear hI hK z0 z1 z2 z3 z4 z5 z6 z7 z8 z9; obtain ⟨z0, z1, z2, z3, z4, z5, z6, z7, z8, z9, y0, y1, y2, y3, y4, y5, y6, y7, y8, y9⟩ := ten (iO HK4.out.1 HBK.out); clear y0 y1 y2 y3 y4 y5 y6 y7 y8 y9))
    clear z0 z1 z2 z3 z4 z5 z6 z7 z8 z9
    go_loopw [59] (fun i wr => ∃ k : Nat, k ≤ l6.length ∧ i = .int .i64 k ∧ iD (Bf w1.heap.size w1.heap.size ([] ++ layB 6 1 ++ layB a1 4 ++ layB a5 4 ++ layB l6.length 1 ++ (l6.take k).flatMap mG) wr) ∧ iD (Kp w1.heap.size w1.heap.size w1 wr)) (fun i _ => l6.length - (intOf i).toNat)
    case atStart => exact ⟨0, Nat.zero_le _, rfl, ⟨by rw [List.take_zero, List.flatMap_nil, List.append_nil]; exact HI4.out⟩, HK4⟩
    case round =>
      obtain ⟨k, hk, rfl, HI, HK⟩ := hrel
      clear HI4 HK4 HI3 HK3 HI2 HK2 HI1 HK1 HI0 HK0
      by_cases hlt : k < l6.length
      · obtain ⟨ad, rfl, hx0, hx1⟩ := lX (Kd.C_below H6.out (iL HBW.out HK.out.1)) (k : Int) (by omega) (by omega)
        rw [OQ] at hx0 hx1
        rw [Int.toNat_natCast] at hx0 hx1
        have hts := iD.mk (kH mG xE l6 k hlt)
        have hpl : ([] ++ layB 6 1 ++ layB a1 4 ++ layB a5 4 ++ layB l6.length 1 ++ (l6.take k).flatMap mG).length + 10 ≤ 140737488355328 := by
          simp only [List.length_append, iP, List.length_nil, uH, List.length_take]
          omega
        obtain ⟨s, hs⟩ : ∃ s, s = l6.getD k xE := ⟨_, rfl⟩
        rw [← hs] at hx0 hx1 hts
        clear hs
        obtain ⟨pre, hpre⟩ : ∃ p, p = [] ++ layB 6 1 ++ layB a1 4 ++ layB a5 4 ++ layB l6.length 1 ++ (l6.take k).flatMap mG := ⟨_, rfl⟩
        have hrest : [] ++ layB 6 1 ++ layB a1 4 ++ layB a5 4 ++ layB l6.length 1 ++ (l6.take (k + 1)).flatMap mG = pre ++ mG s := by rw [hts.out, ← List.append_assoc, hpre]
        have HREST := iD.mk hrest
        rw [← hpre] at HI hpl
        have HPL := iD.mk (show (pre ++ layB s.f0 4).length + 1 ≤ 140737488355328 from by rw [List.length_append, iP]; omega)
        have HPL4 := iD.mk (show pre.length + 4 ≤ 140737488355328 from by omega)
        clear hpre hrest hts hpl
        obtain ⟨wo, rfl⟩ : ∃ wo : World, wo = wr := ⟨_, rfl⟩
        have HBX := iD.mk (Bf.alloc HI.out (.cells #[.int .i64 s.f0, .int .i64 s.f1] 98))
        have HKX := iD.mk (HK.out.alloc HK.out.1.size (.cells #[.int .i64 s.f0, .int .i64 s.f1] 98))
        have HNE := iD.mk (show wo.heap.size ≠ w1.heap.size from by have := HI.out.lt; omega)
        go_wp2_with fail
        refine (nM _ _ pre _ _ HBX.out HKX.out.1.size HPL4.out).mono ?_
        rintro e w2 ⟨rfl, hI, hK⟩
        have HI1 := iD.mk hI
        have HK1 := iD.mk (HKX.out.trans hK)
        have hblk := hK.block (jA rfl) HNE.out (by decide)
        clear hI hK
        have hz1 : w2.cell? ⟨wo.heap.size, 1, none⟩ = some (.int .i64 s.f1) := (iE hblk 1).trans rfl
        clear hblk
        go_wp2_with fail
        refine (pM _ _ _ _ _ HI1.out HK1.out.1.size HPL.out).mono ?_
        rintro e w3 ⟨rfl, hI, hK⟩
        have HI2 := iD.mk hI
        have HK2 := iD.mk (HK1.out.trans hK)
        clear hI hK
        go_wp2
        go_roundw
        case rel => exact ⟨k + 1, by omega, by go_num, ⟨by rw [HREST.out, mG, ← List.append_assoc]; exact HI2.out⟩, HK2⟩
        case measure => simp [intOf]; omega
      · skip
        obtain rfl : k = l6.length := by omega
        have hI' := HI.out
        rw [List.take_length] at hI'
        have HI' := iD.mk hI'
        clear hI'
        go_wp2_with (first | (go_at_call 55; refine (Tryd.Buffer_Len w1.heap.size w1.heap.size _ _ (HI'.out)).mono ?_; rintro e wl ⟨rfl, nl, rfl⟩; rw [Lib.byteCells_length, ← HLEN.out]))
        go_ret2
        exact ⟨_, rfl, Kd.R_nil _ _ _ _ _, by have hz := HBW.out; have hy := HK.out.1; exact iG (iL hz hy) _⟩
  · rw [if_neg hbig]
    have hbigI : ¬ (60000 : Int) < (X.length : Int) := by omega
    clear hbig
    go_enter Tryd.func17, Tryd.ntmps17
    go_wp2_with (first | (go_at_call 19; refine (code_Sound.calls 6 a1 a2 A3 c3 l3 A4 c4 l4 a5 A6 c6 l6 a7 a8 A9 c9 l9 _ _ (Kd.C_below H3.out bel_) d3 (Kd.C_below H4.out bel_) d4 (Kd.C_below H6.out bel_) d6 (Kd.C_below H9.out bel_) d9 rfl).mono ?_; rintro e w1 ⟨rfl, hb1⟩; rw [HS.out]; have HBW := iD.mk (show Below w.heap.size w w1 from iL (iF (Below.refl _ _) _) hb1); have HBK := iD.mk (iO hb1 (jA rfl)); clear hb1; have HI0 := iD.mk (Bf.fresh w1); have HK0 := iD.mk ((Kp.refl w1.heap.size w1.heap.size w1).alloc (Nat.le_refl _) (.cells #[.slice none 0 0, .int .i64 0, .int .i8 0] 91)); obtain ⟨z0, z1, z2, z3, z4, z5, z6, z7, z8, z9, y0, y1, y2, y3, y4, y5, y6, y7, y8, y9⟩ := ten (jP (o := (.cells #[.slice none 0 0, .int .i64 0, .int .i8 0] 91)) HBK.out); clear y0 y1 y2 y3 y4 y5 y6 y7 y8 y9) | (go_at_call 49; refine (oG w1.heap.size w1.heap.size _ _ _ HI0.out HK0.out.1.size (by first | omega | (simp only [List.length_append, iP, List.length_nil, iZ]; omega))).mono ?_; rintro e w2 ⟨rfl, hI, hK⟩; have HI1 := iD.mk hI; have HK1 := iD.mk (HK0.out.trans hK); clear hI hK z0 z1 z2 z3 z4 z5 z6 z7 z8 z9; obtain ⟨z0, z1, z2, z3, z4, z5, z6, z7, z8, z9, y0, y1, y2, y3, y4, y5, y6, y7, y8, y9⟩ := ten (iO HK1.out.1 HBK.out); clear y0 y1 y2 y3 y4 y5 y6 y7 y8 y9) | (go_at_call 50; refine (lD w1.heap.size w1.heap.size _ _ _ HI1.out HK1.out.1.size (by first | omega | (simp only [List.length_append, iP, List.length_nil, iZ]; omega))).mono ?_; rintro e w3 ⟨rfl, hI, hK⟩; have HI2 := iD.mk hI; have HK2 := iD.mk (HK1.out.trans hK); clear hI hK z0 z1 z2 z3 z4 z5 z6 z7 z8 z9; obtain ⟨z0, z1, z2, z3, z4, z5, z6, z7, z8, z9, y0, y1, y2, y3, y4, y5, y6, y7, y8, y9⟩ := ten (iO HK2.out.1 HBK.out); clear y0 y1 y2 y3 y4 y5 y6 y7 y8 y9) | (go_at_call 50; refine (lD w1.heap.size w1.heap.size _ _ _ HI2.out HK2.out.1.size (by first | omega | (simp only [List.length_append, iP, List.length_nil, iZ]; omega))).mono ?_; rintro e w4 ⟨rfl, hI, hK⟩; have HI3 := iD.mk hI; have HK3 := iD.mk (HK2.out.trans hK); clear hI hK z0 z1 z2 z3 z4 z5 z6 z7 z8 z9; obtain ⟨z0, z1, z2, z3, z4, z5, z6, z7, z8, z9, y0, y1, y2, y3, y4, y5, y6, y7, y8, y9⟩ := ten (iO HK3.out.1 HBK.out); clear y0 y1 y2 y3 y4 y5 y6 y7 y8 y9) | (go_at_call 53; refine (pM w1.heap.size w1.heap.size _ _ _ HI3.out HK3.out.1.size (by first | omega | (simp only [List.length_append, iP, List.length_nil, iZ]; omega))).mono ?_; rintro e w5 ⟨rfl, hI, hK⟩; have HI4 := iD.mk hI; have HK4 := iD.mk (HK3.out.trans hK); clear hI hK z0 z1 z2 z3 z4 z5 z6 z7 z8 z9; obtain ⟨z0, z1, z2, z3, z4, z5, z6, z7, z8, z9, y0, y1, y2, y3, y4, y5, y6, y7, y8, y9⟩ := ten (iO HK4.out.1 HBK.out); clear y0 y1 y2 y3 y4 y5 y6 y7 y8 y9))
    clear z0 z1 z2 z3 z4 z5 z6 z7 z8 z9
    go_loopw [59] (fun i wr => ∃ k : Nat, k ≤ l6.length ∧ i = .int .i64 k ∧ iD (Bf w1.heap.size w1.heap.size ([] ++ layB 6 1 ++ layB a1 4 ++ layB a5 4 ++ layB l6.length 1 ++ (l6.take k).flatMap mG) wr) ∧ iD (Kp w1.heap.size w1.heap.size w1 wr)) (fun i _ => l6.length - (intOf i).toNat)
    case atStart => exact ⟨0, Nat.zero_le _, rfl, ⟨by rw [List.take_zero, List.flatMap_nil, List.append_nil]; exact HI4.out⟩, HK4⟩
    case round =>
      obtain ⟨k, hk, rfl, HI, HK⟩ := hrel
      clear HI4 HK4 HI3 HK3 HI2 HK2 HI1 HK1 HI0 HK0
      by_cases hlt : k < l6.length
      · obtain ⟨ad, rfl, hx0, hx1⟩ := lX (Kd.C_below H6.out (iL HBW.out HK.out.1)) (k : Int) (by omega) (by omega)
        rw [OQ] at hx0 hx1
        rw [Int.toNat_natCast] at hx0 hx1
        have hts := iD.mk (kH mG xE l6 k hlt)
        have hpl : ([] ++ layB 6 1 ++ layB a1 4 ++ layB a5 4 ++ layB l6.length 1 ++ (l6.take k).flatMap mG).length + 10 ≤ 140737488355328 := by
          simp only [List.length_append, iP, List.length_nil, uH, List.length_take]
          omega
        obtain ⟨s, hs⟩ : ∃ s, s = l6.getD k xE := ⟨_, rfl⟩
        rw [← hs] at hx0 hx1 hts
        clear hs
        obtain ⟨pre, hpre⟩ : ∃ p, p = [] ++ layB 6 1 ++ layB a1 4 ++ layB a5 4 ++ layB l6.length 1 ++ (l6.take k).flatMap mG := ⟨_, rfl⟩
        have hrest : [] ++ layB 6 1 ++ layB a1 4 ++ layB a5 4 ++ layB l6.length 1 ++ (l6.take (k + 1)).flatMap mG = pre ++ mG s := by rw [hts.out, ← List.append_assoc, hpre]
        have HREST := iD.mk hrest
        rw [← hpre] at HI hpl
        have HPL := iD.mk (show (pre ++ layB s.f0 4).length + 1 ≤ 140737488355328 from by rw [List.length_append, iP]; omega)
        have HPL4 := iD.mk (show pre.length + 4 ≤ 140737488355328 from by omega)
        clear hpre hrest hts hpl
        obtain ⟨wo, rfl⟩ : ∃ wo : World, wo = wr := ⟨_, rfl⟩
        have HBX := iD.mk (Bf.alloc HI.out (.cells #[.int .i64 s.f0, .int .i64 s.f1] 98))
        have HKX := iD.mk (HK.out.alloc HK.out.1.size (.cells #[.int .i64 s.f0, .int .i64 s.f1] 98))
        have HNE := iD.mk (show wo.heap.size ≠ w1.heap.size from by have := HI.out.lt; omega)
        go_wp2_with fail
        refine (nM _ _ pre _ _ HBX.out HKX.out.1.size HPL4.out).mono ?_
        rintro e w2 ⟨rfl, hI, hK⟩
        have HI1 := iD.mk hI
        have HK1 := iD.mk (HKX.out.trans hK)
        have hblk := hK.block (jA rfl) HNE.out (by decide)
        clear hI hK
        have hz1 : w2.cell? ⟨wo.heap.size, 1, none⟩ = some (.int .i64 s.f1) := (iE hblk 1).trans rfl
        clear hblk
        go_wp2_with fail
        refine (pM _ _ _ _ _ HI1.out HK1.out.1.size HPL.out).mono ?_
        rintro e w3 ⟨rfl, hI, hK⟩
        have HI2 := iD.mk hI
        have HK2 := iD.mk (HK1.out.trans hK)
        clear hI hK
        go_wp2
        go_roundw
        case rel => exact ⟨k + 1, by omega, by go_num, ⟨by rw [HREST.out, mG, ← List.append_assoc]; exact HI2.out⟩, HK2⟩
        case measure => simp [intOf]; omega
      · skip
        obtain rfl : k = l6.length := by omega
        have hI' := HI.out
        rw [List.take_length] at hI'
        have HI' := iD.mk hI'
        clear hI'
        go_wp2_with (first | (go_at_call 55; refine (Tryd.Buffer_Len w1.heap.size w1.heap.size _ _ (HI'.out)).mono ?_; rintro e wl ⟨rfl, nl, rfl⟩; rw [Lib.byteCells_length, ← HLEN.out]) | (go_at_call 56; refine (Tryd.Buffer_Bytes w1.heap.size w1.heap.size _ _ (HI'.out.drewN _)).mono ?_; rintro e wb ⟨v, rfl, hv, nb, rfl⟩; have HV := iD.mk hv; clear hv))
        go_ret2
        exact ⟨_, rfl, by rw [HX.out, V7]; exact pF HV.out HBW.out.size, by have hz := HBW.out; have hy := HK.out.1; exact iG (iL hz hy) _⟩
set_option maxHeartbeats 2000000 in
theorem UE (hs : jL ⟨a0, a1, a2, l3, l4, ⟨a5, l6⟩, a7, a8, l9⟩ = false) : Calls Tryd.prog 17 #[.agg #[.int .u8 a0, .int .u32 a1, .int .u32 a2, .slice A3 l3.length c3, .slice A4 l4.length c4, .int .u32 a5, .slice A6 l6.length c6, .int .i64 a7, .int .i64 a8, .slice A9 l9.length c9]] w (pK w (encR ⟨a0, a1, a2, l3, l4, ⟨a5, l6⟩, a7, a8, l9⟩)) := by
  have H3 := iD.mk h3; have H4 := iD.mk h4; have H6 := iD.mk h6; have H9 := iD.mk h9
  clear h3 h4 h6 h9
  unfold encR
  rw [if_neg (by rw [hs]; exact Bool.false_ne_true)]
  have HS := iD.mk hs
  clear hs
  go_enter Tryd.func17, Tryd.ntmps17
  go_wp2_with (first | (go_at_call 19; refine (code_Sound.calls a0 a1 a2 A3 c3 l3 A4 c4 l4 a5 A6 c6 l6 a7 a8 A9 c9 l9 _ _ (Kd.C_below H3.out bel_) d3 (Kd.C_below H4.out bel_) d4 (Kd.C_below H6.out bel_) d6 (Kd.C_below H9.out bel_) d9 rfl).mono ?_; rintro e w1 ⟨rfl, hb1⟩; rw [HS.out]))
  go_ret2
  exact ⟨_, rfl, Kd.R_nil _ _ _ _ _, iL (iF (Below.refl _ _) _) hb1⟩
end
theorem code_Encode.calls (a0_0 : Int) (a0_1 : Int) (a0_2 : Int) (A0_3 : Option Addr) (c0_3 : Nat) (l0_3 : List Int) (A0_4 : Option Addr) (c0_4 : Nat) (l0_4 : List jK) (a0_5 : Int) (A0_6 : Option Addr) (c0_6 : Nat) (l0_6 : List jW) (a0_7 : Int) (a0_8 : Int) (A0_9 : Option Addr) (c0_9 : Nat) (l0_9 : List jG) (r1 : List Int) (r2 : Int) (w : World) (hr0_3 : Kd.C (Kd.int .i64) w A0_3 l0_3.length l0_3) (hc0_3 : l0_3.length ≤ c0_3) (hr0_4 : Kd.C k139 w A0_4 l0_4.length l0_4) (hc0_4 : l0_4.length ≤ c0_4) (hr0_6 : Kd.C k98 w A0_6 l0_6.length l0_6) (hc0_6 : l0_6.length ≤ c0_6) (hr0_9 : Kd.C k86 w A0_9 l0_9.length l0_9) (hc0_9 : l0_9.length ≤ c0_9) (h : code_Encode.f a0_0 a0_1 a0_2 l0_3 l0_4 a0_5 l0_6 a0_7 a0_8 l0_9 = some (r1, r2)) :
    Calls Tryd.prog 17 #[.agg #[.int .u8 a0_0, .int .u32 a0_1, .int .u32 a0_2, .slice A0_3 l0_3.length c0_3, .slice A0_4 l0_4.length c0_4, .int .u32 a0_5, .slice A0_6 l0_6.length c0_6, .int .i64 a0_7, .int .i64 a0_8, .slice A0_9 l0_9.length c0_9]] w fun e w' => ∃ v0_ : Value, e = .returned (.tuple #[v0_, .int .u16 r2]) ∧ Kd.R (Kd.int .u8) 5 w' w.heap.size (fun _ => True) v0_ r1 ∧ Below w.heap.size w w' := by
  have e := Option.some.inj h
  clear h
  have main : Calls Tryd.prog 17 #[.agg #[.int .u8 a0_0, .int .u32 a0_1, .int .u32 a0_2, .slice A0_3 l0_3.length c0_3, .slice A0_4 l0_4.length c0_4, .int .u32 a0_5, .slice A0_6 l0_6.length c0_6, .int .i64 a0_7, .int .i64 a0_8, .slice A0_9 l0_9.length c0_9]] w (pK w (encR ⟨a0_0, a0_1, a0_2, l0_3, l0_4, ⟨a0_5, l0_6⟩, a0_7, a0_8, l0_9⟩)) := by
    clear e
    cases hs : jL ⟨a0_0, a0_1, a0_2, l0_3, l0_4, ⟨a0_5, l0_6⟩, a0_7, a0_8, l0_9⟩ with
    | false => exact UE a0_0 a0_1 a0_2 A0_3 c0_3 l0_3 A0_4 c0_4 l0_4 a0_5 A0_6 c0_6 l0_6 a0_7 a0_8 A0_9 c0_9 l0_9 w hr0_3 hc0_3 hr0_4 hc0_4 hr0_6 hc0_6 hr0_9 hc0_9 hs
    | true =>
      by_cases h0 : a0_0 < 1 ∨ 7 < a0_0
      · rw [QT _ _ _ _ _ _ _ _ _ _ h0] at hs
        cases hs
      have h7 : a0_0 = 1 ∨ a0_0 = 2 ∨ a0_0 = 3 ∨ a0_0 = 4 ∨ a0_0 = 5 ∨ a0_0 = 6 ∨ a0_0 = 7 := by omega
      rcases h7 with rfl | rfl | rfl | rfl | rfl | rfl | rfl
      · exact TF a0_1 a0_2 A0_3 c0_3 l0_3 A0_4 c0_4 l0_4 a0_5 A0_6 c0_6 l0_6 a0_7 a0_8 A0_9 c0_9 l0_9 w hr0_3 hc0_3 hr0_4 hc0_4 hr0_6 hc0_6 hr0_9 hc0_9 hs
      · exact UG a0_1 a0_2 A0_3 c0_3 l0_3 A0_4 c0_4 l0_4 a0_5 A0_6 c0_6 l0_6 a0_7 a0_8 A0_9 c0_9 l0_9 w hr0_3 hc0_3 hr0_4 hc0_4 hr0_6 hc0_6 hr0_9 hc0_9 hs
      · exact TG a0_1 a0_2 A0_3 c0_3 l0_3 A0_4 c0_4 l0_4 a0_5 A0_6 c0_6 l0_6 a0_7 a0_8 A0_9 c0_9 l0_9 w hr0_3 hc0_3 hr0_4 hc0_4 hr0_6 hc0_6 hr0_9 hc0_9 hs
      · exact RQ a0_1 a0_2 A0_3 c0_3 l0_3 A0_4 c0_4 l0_4 a0_5 A0_6 c0_6 l0_6 a0_7 a0_8 A0_9 c0_9 l0_9 w hr0_3 hc0_3 hr0_4 hc0_4 hr0_6 hc0_6 hr0_9 hc0_9 hs
      · exact U2 a0_1 a0_2 A0_3 c0_3 l0_3 A0_4 c0_4 l0_4 a0_5 A0_6 c0_6 l0_6 a0_7 a0_8 A0_9 c0_9 l0_9 w hr0_3 hc0_3 hr0_4 hc0_4 hr0_6 hc0_6 hr0_9 hc0_9 hs
      · exact TC a0_1 a0_2 A0_3 c0_3 l0_3 A0_4 c0_4 l0_4 a0_5 A0_6 c0_6 l0_6 a0_7 a0_8 A0_9 c0_9 l0_9 w hr0_3 hc0_3 hr0_4 hc0_4 hr0_6 hc0_6 hr0_9 hc0_9 hs
      · exact TA a0_1 a0_2 A0_3 c0_3 l0_3 A0_4 c0_4 l0_4 a0_5 A0_6 c0_6 l0_6 a0_7 a0_8 A0_9 c0_9 l0_9 w hr0_3 hc0_3 hr0_4 hc0_4 hr0_6 hc0_6 hr0_9 hc0_9 hs
  rw [e] at main
  exact main
end Go.Proofs.YtgfkgppomaapiaaDoor.K
end

section
namespace Go.Proofs.YtgfkgppomaapiaaDoor.K
open Go.RowKit Go.Proofs.YtgfkgppomaapiaaDoorW.PrintWords Go.Proofs.YtgfkgppomaapiaaDoorW.PrintLast Go.Proofs.YtgfkgppomaapiaaDoorW.PrintMore
attribute [local go_sem] kC kN
def stratumref07_Put.l0 : Nat → List Int → Int → Int → Option (List Int)
  | 0, _, _, _ => none
  | k + 1, x0, x1, x7 => if x7 ≥ 0 then (if 0 ≤ (IntKind.u64.wrap (8 * (IntKind.u64.wrap (x7)))) then (if x0.length < 140737488355328 then (stratumref07_Put.l0 k (x0 ++ [(shr .u64 x1 (IntKind.u64.wrap (8 * (IntKind.u64.wrap (x7))))) % 256]) x1 (wrap64 (x7 - 1))) else (none)) else (none)) else (some x0)
def stratumref07_Put.f (k : Nat) (l0 : List Int) (a1 : Int) (a2 : Int) : Option (List Int) := stratumref07_Put.l0 k l0 a1 (wrap64 (a2 - 1))
set_option maxHeartbeats 8000000 in
set_option maxRecDepth 100000 in
theorem stratumref07_Put.calls (k : Nat) (P0_ : Nat → Prop) (u9000_ : Value) (l0 : List Int) (a1 : Int) (a2 : Int) (r : List Int) (w0 w : World) (hB : Below w0.heap.size w0 w) (ho0 : Kd.R (Kd.int .u8) 5 w w0.heap.size P0_ u9000_ l0) (h : stratumref07_Put.f k l0 a1 a2 = some r) :
    Calls Tryd.prog 57 #[u9000_, .int .u64 a1, .int .i64 a2] w fun e w' => ∃ v0_ : Value, e = .returned (v0_) ∧ Kd.R (Kd.int .u8) 5 w' w0.heap.size (fun k_ => (P0_ k_ ∨ w.heap.size ≤ k_)) v0_ r ∧ Below w0.heap.size w0 w' ∧ Kept w w' (fun k_ => P0_ k_) := by
  have HO0 := iD.mk (show Kd.R (Kd.int .u8) 5 w w0.heap.size (fun k_ => (P0_ k_ ∨ w.heap.size ≤ k_)) u9000_ l0 from Kd.R_mono ho0 (fun k_ hk => (.inl hk)))
  have HK := iD.mk (Kept.refl w (fun k_ => P0_ k_))
  have HW0 := iD.mk hB.size
  have HB := iD.mk hB
  clear hB
  have H : (stratumref07_Put.l0 k l0 a1 (wrap64 (a2 - 1))) = some r := h
  clear h
  have H' := iD.mk H
  clear H
  go_enter Tryd.func57, Tryd.ntmps57
  go_wp2
  go_loopg [0, 7] k (fun kq v0 v7 w' => ∃ (x0_1 : List Int) (x7_1 : Int), v7 = .int .i64 x7_1 ∧ iD (stratumref07_Put.l0 kq x0_1 a1 x7_1 = some r) ∧ iD (kq ≤ k) ∧ iD (Kd.R (Kd.int .u8) 5 w' w0.heap.size (fun k_ => (P0_ k_ ∨ w.heap.size ≤ k_)) v0 x0_1) ∧ iD (Kept w w' (fun k_ => P0_ k_)) ∧ iD (Below w0.heap.size w0 w'))
  case atStart => exact ⟨(l0), (wrap64 (a2 - 1)), (by first | rfl | (simp; done) | (simp [*]; done)), H', ⟨Nat.le_refl _⟩, ⟨by (with_reducible repeat (first | apply Kd.R_alloc | apply Kd.R_drewN | apply Kd.R_drew)); exact HO0.out⟩, ⟨by repeat (first | (with_reducible first | exact HK.out | apply Kept.alloc | apply Kept.drewN | apply Kept.drew) | exact HK.out)⟩, ⟨hb_⟩⟩
  case round =>
    clear H'
    try clear p2
    obtain ⟨x0_1, x7_1, rfl, HA, HK1, HO_0, HK, HB⟩ := hrel
    cases gk with
    | zero => exact absurd HA.out (by simp [stratumref07_Put.l0])
    | succ k1 =>
      have H := HA.out
      clear HA
      simp only [stratumref07_Put.l0] at H
      by_cases c4 : x7_1 ≥ 0
      · rw [if_pos c4] at H
        have c4b0 : decide (0 ≤ x7_1) = true := decide_eq_true c4
        clear c4
        obtain ⟨ji5, hji5⟩ : ∃ j_ : Int, (IntKind.u64.wrap (8 * (IntKind.u64.wrap (x7_1)))) = j_ := ⟨_, rfl⟩
        replace H : (if 0 ≤ (ji5) then (if x0_1.length < 140737488355328 then (stratumref07_Put.l0 k1 (x0_1 ++ [(shr .u64 a1 (ji5)) % 256]) a1 (wrap64 (x7_1 - 1))) else (none)) else (none)) = some r := by first | (rw [hji5] at H; exact H) | (simp only [hji5] at H ⊢; exact H)
        by_cases c6 : 0 ≤ (ji5)
        · rw [if_pos c6] at H
          have c6b0 := eq_true c6
          have c6b1 : decide (0 ≤ (ji5)) = true := decide_eq_true c6
          clear c6
          obtain ⟨ji7, hji7⟩ : ∃ j_ : Int, (shr .u64 a1 (ji5)) = j_ := ⟨_, rfl⟩
          replace H : (if x0_1.length < 140737488355328 then (stratumref07_Put.l0 k1 (x0_1 ++ [(ji7) % 256]) a1 (wrap64 (x7_1 - 1))) else (none)) = some r := by first | (rw [hji7] at H; exact H) | (simp only [hji7] at H ⊢; exact H)
          have hji7_ : (a1 / 2 ^ min (ji5).toNat 64) = ji7 := hji7
          have hji7z : (ji5) ≤ 64 → (a1 / 2 ^ (ji5).toNat) = ji7 := IW hji7
          by_cases c8 : x0_1.length < 140737488355328
          · rw [if_pos c8] at H
            have LMc8 := iD.mk c8
            clear c8
            obtain ⟨y146, hy146⟩ : ∃ y_ : List Int, y_ = (x0_1 ++ [(ji7) % 256]) := ⟨_, rfl⟩
            replace H : (stratumref07_Put.l0 k1 y146 a1 (wrap64 (x7_1 - 1))) = some r := by first | (rw [hy146]; with_reducible exact H) | (have H2_ := (Option.bind_some _ _).symm.trans H; rw [hy146]; with_reducible exact H2_) | (have H2_ := (Option.bind_some _ _).symm.trans H; with_reducible exact H2_) | with_reducible exact H | (rw [hy146]; exact H) | exact H
            have Ny146 := iD.mk hy146
            clear hy146
            have H' := iD.mk H
            clear H
            go_wp2_with (first | ((with_reducible refine oD (b := .append) (xs := #[.tmp 14, .tmp 21]) rfl ?_); at_builtin; refine Kd.R_append (Kd.int .u8) (w0 := w0) w0.heap.size rfl (.tmp 14) (.tmp 21) 33 5 (.int .u8 0) 1 rfl Tryd.underlying33 info5 rfl (by decide) (by omega) u0 x0_1 ((ji7) % 256) [.int .u8 ((ji7) % 256)] (fun k_ => (P0_ k_ ∨ w.heap.size ≤ k_)) (fun _ => False) rfl rfl ?aP (fun _ hk => hk.elim) ?aF ?aO ?aB ?aS ?aL ?_; (case aP => exact rfl); (case aB => exact hb_); (case aF => exact (fun k_ hk => (.inr (Nat.le_trans (by first | exact HK.out.1 | exact (show Kept w _ (fun k_ => P0_ k_) from by repeat (first | (with_reducible first | exact HK.out | apply Kept.alloc | apply Kept.drewN | apply Kept.drew) | exact HK.out)).1) hk)))); (case aO => exact (by (with_reducible repeat (first | apply Kd.R_alloc | apply Kd.R_drewN | apply Kd.R_drew)); exact HO_0.out)); (case aS => exact (iT hb_)); (case aL => have := LMc8.out; omega); intro v147 w9 ho hb hg hat; rw [← Ny146.out] at ho; have n0_ := iD.mk (hb); have n1_ := iD.mk (Kept.of_grown (S := (fun k_ => P0_ k_)) hg (by repeat (first | (with_reducible first | exact HK.out | apply Kept.alloc | apply Kept.drewN | apply Kept.drew) | exact HK.out)) (fun k_ e_ => (HO_0.out.1 k_ e_))); have n2_ := iD.mk (ho); clear HB; clear HK; clear HO_0; have HB := n0_; have HK := n1_; have HO148 := n2_; clear n0_ n1_ n2_; clear ho hb hg hat))
            go_roundg k1
            case measure => have := HK1.out; omega
            case rel => exact ⟨(y146), (wrap64 (x7_1 - 1)), (by first | rfl | (simp; done) | (simp [*]; done)), H', ⟨by have := HK1.out; omega⟩, ⟨by (with_reducible repeat (first | apply Kd.R_alloc | apply Kd.R_drewN | apply Kd.R_drew)); exact HO148.out⟩, ⟨by repeat (first | (with_reducible first | exact HK.out | apply Kept.alloc | apply Kept.drewN | apply Kept.drew) | exact HK.out)⟩, ⟨hb_⟩⟩
          · rw [if_neg c8] at H
            exact absurd H (by simp)
        · rw [if_neg c6] at H
          exact absurd H (by simp)
      · rw [if_neg c4] at H
        have c4b0 : decide (0 ≤ x7_1) = false := decide_eq_false c4
        clear c4
        obtain rfl := Option.some.inj H
        go_wp2
        go_ret
        exact ⟨_, by first | rfl | (simp [iQ, iR] <;> rfl) | (simp [*, iQ, iR] <;> rfl), by (with_reducible repeat (first | apply Kd.R_alloc | apply Kd.R_drewN | apply Kd.R_drew)); exact HO_0.out, hb_, by repeat (first | (with_reducible first | exact HK.out | apply Kept.alloc | apply Kept.drewN | apply Kept.drew) | exact HK.out)⟩
end Go.Proofs.YtgfkgppomaapiaaDoor.K
end

section
namespace Go.Proofs.YtgfkgppomaapiaaDoor.K
open Go.RowKit Go.Proofs.YtgfkgppomaapiaaDoorW.PrintWords Go.Proofs.YtgfkgppomaapiaaDoorW.PrintLast Go.Proofs.YtgfkgppomaapiaaDoorW.PrintMore
attribute [local go_sem] kC kN
def stratumref07_Nodes.l0 : Nat → List Int → List Int → Int → Option (List Int)
  | 0, _, _, _ => none
  | k + 1, x0, x1, x5 => if x5 < (x1.length : Int) then (if 0 ≤ x5 then ((stratumref07_Put.f k x0 (IntKind.u64.wrap (rd x1 x5)) 1).bind fun t153 => (stratumref07_Nodes.l0 k t153 x1 (wrap64 (x5 + 1)))) else (none)) else (some x0)
def stratumref07_Nodes.f (k : Nat) (l0 : List Int) (l1 : List Int) : Option (List Int) := (stratumref07_Put.f k l0 (IntKind.u64.wrap ((l1.length : Int))) 1).bind fun t149 => (stratumref07_Nodes.l0 k t149 l1 0)
set_option maxHeartbeats 8000000 in
set_option maxRecDepth 100000 in
theorem stratumref07_Nodes.calls (k : Nat) (P0_ : Nat → Prop) (u9000_ : Value) (l0 : List Int) (A1 : Option Addr) (c1 : Nat) (l1 : List Int) (r : List Int) (w0 w : World) (hB : Below w0.heap.size w0 w) (ho0 : Kd.R (Kd.int .u8) 5 w w0.heap.size P0_ u9000_ l0) (hr1 : ∀ W_, Kept w W_ (fun k_ => P0_ k_) → Kd.C (Kd.int .i64) W_ A1 l1.length l1) (hc1 : l1.length ≤ c1) (h : stratumref07_Nodes.f k l0 l1 = some r) :
    Calls Tryd.prog 58 #[u9000_, .slice A1 l1.length c1] w fun e w' => ∃ v0_ : Value, e = .returned (v0_) ∧ Kd.R (Kd.int .u8) 5 w' w0.heap.size (fun k_ => (P0_ k_ ∨ w.heap.size ≤ k_)) v0_ r ∧ Below w0.heap.size w0 w' ∧ Kept w w' (fun k_ => P0_ k_) := by
  have HO0 := iD.mk (show Kd.R (Kd.int .u8) 5 w w0.heap.size (fun k_ => (P0_ k_ ∨ w.heap.size ≤ k_)) u9000_ l0 from Kd.R_mono ho0 (fun k_ hk => (.inl hk)))
  have HR1 := iD.mk hr1
  have HC1 := iD.mk hc1
  clear hr1 hc1
  have HK := iD.mk (Kept.refl w (fun k_ => P0_ k_))
  have HW0 := iD.mk hB.size
  have HB := iD.mk hB
  clear hB
  have H : ((stratumref07_Put.f k l0 (IntKind.u64.wrap ((l1.length : Int))) 1).bind fun t149 => (stratumref07_Nodes.l0 k t149 l1 0)) = some r := h
  clear h
  replace H := Option.bind_eq_some_iff.mp H
  obtain ⟨t149, A30, H⟩ := H
  replace H : (stratumref07_Nodes.l0 k t149 l1 0) = some r := H
  have A3 := iD.mk A30
  clear A30
  have H' := iD.mk H
  clear H
  obtain ⟨Ao4, co4, eo4⟩ := Kd.R_slice HO0.out
  subst eo4
  go_enter Tryd.func58, Tryd.ntmps58
  go_wp2_with (first | ((with_reducible refine jR (f := 57) rfl ?_); refine lY (some 10) rfl rfl Tryd.func57 (by kernel_rfl) rfl #[.slice Ao4 l0.length co4, .int .u64 (IntKind.u64.wrap ((l1.length : Int))), .int .i64 1] rfl (by (try simp only [List.map_toArray, List.map_cons, List.map_nil]); first | done | rfl | (simp only [List.length_drop, List.length_take]; rfl)) ?_; (with_reducible refine (stratumref07_Put.calls k (fun k_ => some k_ = (.slice Ao4 l0.length co4 : Value).ownBlock) (.slice Ao4 l0.length co4) l0 (IntKind.u64.wrap ((l1.length : Int))) 1 t149 w0 _ ?side1 ?side2 A3.out).mono ?_); (case side1 => repeat (first | (with_reducible first | exact HB.out | apply iF | apply iG | apply iH) | exact HB.out)); (case side2 => exact Kd.R_tight rfl HO0.out); rintro e w5 ⟨v150, rfl, ho0, hb, hkp⟩; refine ⟨_, rfl, ?_⟩; have n0_ := iD.mk (Kd.R_mono (ok' := fun k_ => (P0_ k_ ∨ w.heap.size ≤ k_)) ho0 (fun k_ hk_ => Or.elim hk_ (fun hs_ => (HO0.out.1 k_ (hs_).symm)) (fun hn_ => (.inr (Nat.le_trans (by first | exact HK.out.1 | exact (show Kept w _ (fun k_ => P0_ k_) from by repeat (first | (with_reducible first | exact HK.out | apply Kept.alloc | apply Kept.drewN | apply Kept.drew) | exact HK.out)).1) hn_))))); have n1_ := iD.mk (Kept.then_ (S := (fun k_ => P0_ k_)) (by repeat (first | (with_reducible first | exact HK.out | apply Kept.alloc | apply Kept.drewN | apply Kept.drew) | exact HK.out)) hkp (fun k_ hs_ => (fun e_ => (HO0.out.1 k_ e_.symm)) hs_)); have n2_ := iD.mk (hb); clear HK; clear HB; clear HO0; have HO151 := n0_; have HK := n1_; have HB := n2_; clear n0_ n1_ n2_; (try clear hb); (try clear hkp); (try clear ho0)))
  go_loopg [0, 5] k (fun kq v0 v5 w' => ∃ (x0_1 : List Int) (x5_1 : Int), v5 = .int .i64 x5_1 ∧ iD (stratumref07_Nodes.l0 kq x0_1 l1 x5_1 = some r) ∧ iD (kq ≤ k) ∧ iD (Kd.R (Kd.int .u8) 5 w' w0.heap.size (fun k_ => (P0_ k_ ∨ w.heap.size ≤ k_)) v0 x0_1) ∧ iD (Kept w w' (fun k_ => P0_ k_)) ∧ iD (Below w0.heap.size w0 w'))
  case atStart => exact ⟨(t149), (0), (by first | rfl | (simp; done) | (simp [*]; done)), H', ⟨Nat.le_refl _⟩, ⟨by (with_reducible repeat (first | apply Kd.R_alloc | apply Kd.R_drewN | apply Kd.R_drew)); exact HO151.out⟩, ⟨by repeat (first | (with_reducible first | exact HK.out | apply Kept.alloc | apply Kept.drewN | apply Kept.drew) | exact HK.out)⟩, ⟨hb_⟩⟩
  case round =>
    clear H'
    try clear c1
    try clear p2
    try clear c5
    obtain ⟨x0_1, x5_1, rfl, HA, HK1, HO_0, HK, HB⟩ := hrel
    cases gk with
    | zero => exact absurd HA.out (by simp [stratumref07_Nodes.l0])
    | succ k1 =>
      have H := HA.out
      clear HA
      simp only [stratumref07_Nodes.l0] at H
      by_cases c6 : x5_1 < (l1.length : Int)
      · rw [if_pos c6] at H
        have c6b0 : decide (x5_1 < (l1.length : Int)) = true := decide_eq_true c6
        clear c6
        by_cases c7 : 0 ≤ x5_1
        · rw [if_pos c7] at H
          have c7b0 : decide (0 ≤ x5_1) = true := decide_eq_true c7
          clear c7
          replace H := Option.bind_eq_some_iff.mp H
          obtain ⟨t153, A80, H⟩ := H
          replace H : (stratumref07_Nodes.l0 k1 t153 l1 (wrap64 (x5_1 + 1))) = some r := H
          have A8 := iD.mk A80
          clear A80
          have H' := iD.mk H
          clear H
          have p152 : 0 ≤ (x5_1 : Int) := of_decide_eq_true asm_
          have q152 : x5_1 < (l1.length : Int) := of_decide_eq_true asm_
          obtain ⟨ad152, e152, hx152_0⟩ := Kd.at_int (Kd.C_kept_now HR1.out HK.out) x5_1 p152 q152
          cases e152
          replace p152 := eq_true p152
          replace q152 := eq_true q152
          obtain ⟨Ao9, co9, eo9⟩ := Kd.R_slice HO_0.out
          subst eo9
          go_wp2_with (first | ((with_reducible refine jR (f := 57) rfl ?_); refine lY (some 23) rfl rfl Tryd.func57 (by kernel_rfl) rfl #[.slice Ao9 x0_1.length co9, .int .u64 (IntKind.u64.wrap (rd l1 x5_1)), .int .i64 1] rfl (by (try simp only [List.map_toArray, List.map_cons, List.map_nil]); first | done | rfl | (simp only [List.length_drop, List.length_take]; rfl)) ?_; (with_reducible refine (stratumref07_Put.calls k1 (fun k_ => some k_ = (.slice Ao9 x0_1.length co9 : Value).ownBlock) (.slice Ao9 x0_1.length co9) x0_1 (IntKind.u64.wrap (rd l1 x5_1)) 1 t153 w0 _ ?side1 ?side2 A8.out).mono ?_); (case side1 => repeat (first | (with_reducible first | exact HB.out | apply iF | apply iG | apply iH) | exact HB.out)); (case side2 => exact Kd.R_tight rfl HO_0.out); rintro e w10 ⟨v154, rfl, ho0, hb, hkp⟩; refine ⟨_, rfl, ?_⟩; have n0_ := iD.mk (Kd.R_mono (ok' := fun k_ => (P0_ k_ ∨ w.heap.size ≤ k_)) ho0 (fun k_ hk_ => Or.elim hk_ (fun hs_ => (HO_0.out.1 k_ (hs_).symm)) (fun hn_ => (.inr (Nat.le_trans (by first | exact HK.out.1 | exact (show Kept w _ (fun k_ => P0_ k_) from by repeat (first | (with_reducible first | exact HK.out | apply Kept.alloc | apply Kept.drewN | apply Kept.drew) | exact HK.out)).1) hn_))))); have n1_ := iD.mk (Kept.then_ (S := (fun k_ => P0_ k_)) (by repeat (first | (with_reducible first | exact HK.out | apply Kept.alloc | apply Kept.drewN | apply Kept.drew) | exact HK.out)) hkp (fun k_ hs_ => (fun e_ => (HO_0.out.1 k_ e_.symm)) hs_)); have n2_ := iD.mk (hb); clear HK; clear HB; clear HO_0; have HO155 := n0_; have HK := n1_; have HB := n2_; clear n0_ n1_ n2_; (try clear hb); (try clear hkp); (try clear ho0)))
          go_roundg k1
          case measure => have := HK1.out; omega
          case rel => exact ⟨(t153), (wrap64 (x5_1 + 1)), (by first | rfl | (simp; done) | (simp [*]; done)), H', ⟨by have := HK1.out; omega⟩, ⟨by (with_reducible repeat (first | apply Kd.R_alloc | apply Kd.R_drewN | apply Kd.R_drew)); exact HO155.out⟩, ⟨by repeat (first | (with_reducible first | exact HK.out | apply Kept.alloc | apply Kept.drewN | apply Kept.drew) | exact HK.out)⟩, ⟨hb_⟩⟩
        · rw [if_neg c7] at H
          exact absurd H (by simp)
      · rw [if_neg c6] at H
        have c6b0 : decide (x5_1 < (l1.length : Int)) = false := decide_eq_false c6
        clear c6
        obtain rfl := Option.some.inj H
        go_wp2
        go_ret
        exact ⟨_, by first | rfl | (simp [iQ, iR] <;> rfl) | (simp [*, iQ, iR] <;> rfl), by (with_reducible repeat (first | apply Kd.R_alloc | apply Kd.R_drewN | apply Kd.R_drew)); exact HO_0.out, hb_, by repeat (first | (with_reducible first | exact HK.out | apply Kept.alloc | apply Kept.drewN | apply Kept.drew) | exact HK.out)⟩
end Go.Proofs.YtgfkgppomaapiaaDoor.K
end

section
namespace Go.Proofs.YtgfkgppomaapiaaDoor.K
open Go.RowKit Go.Proofs.YtgfkgppomaapiaaDoorW.PrintWords Go.Proofs.YtgfkgppomaapiaaDoorW.PrintLast Go.Proofs.YtgfkgppomaapiaaDoorW.PrintMore
attribute [local go_sem] kC kN
mutual
def stratumref07_Facts.l0 : Nat → List Int → List (S139) → Int → Option (List Int)
  | 0, _, _, _ => none
  | k + 1, x0, x1, x5 => if x5 < (x1.length : Int) then (if 0 ≤ x5 then ((stratumref07_Put.f k x0 (IntKind.u64.wrap ((((iU x1 x5).f0).length : Int))) 1).bind fun t160 => (stratumref07_Facts.l1 k t160 x1 x5 0)) else (none)) else (some x0)
def stratumref07_Facts.l1 : Nat → List Int → List (S139) → Int → Int → Option (List Int)
  | 0, _, _, _, _ => none
  | k + 1, x0, x1, x5, x6 => if 0 ≤ x5 then (if x5 < (x1.length : Int) then (if x6 < (((iU x1 x5).f0).length : Int) then (if 0 ≤ x6 then ((stratumref07_Put.f k x0 (IntKind.u64.wrap (rd ((iU x1 x5).f0) x6)) 4).bind fun t166 => (stratumref07_Facts.l1 k t166 x1 x5 (wrap64 (x6 + 1)))) else (none)) else ((stratumref07_Put.f k x0 (IntKind.u64.wrap ((iU x1 x5).f1)) 8).bind fun t170 => (stratumref07_Facts.l0 k t170 x1 (wrap64 (x5 + 1))))) else (none)) else (none)
end
def stratumref07_Facts.f (k : Nat) (l0 : List Int) (l1 : List (S139)) : Option (List Int) := (stratumref07_Put.f k l0 (IntKind.u64.wrap ((l1.length : Int))) 4).bind fun t156 => (stratumref07_Facts.l0 k t156 l1 0)
set_option maxHeartbeats 8000000 in
set_option maxRecDepth 100000 in
theorem stratumref07_Facts.calls (k : Nat) (P0_ : Nat → Prop) (u9000_ : Value) (l0 : List Int) (A1 : Option Addr) (c1 : Nat) (l1 : List (S139)) (r : List Int) (w0 w : World) (hB : Below w0.heap.size w0 w) (ho0 : Kd.R (Kd.int .u8) 5 w w0.heap.size P0_ u9000_ l0) (hr1 : ∀ W_, Kept w W_ (fun k_ => P0_ k_) → Kd.C k139 W_ A1 l1.length l1) (hc1 : l1.length ≤ c1) (h : stratumref07_Facts.f k l0 l1 = some r) :
    Calls Tryd.prog 59 #[u9000_, .slice A1 l1.length c1] w fun e w' => ∃ v0_ : Value, e = .returned (v0_) ∧ Kd.R (Kd.int .u8) 5 w' w0.heap.size (fun k_ => (P0_ k_ ∨ w.heap.size ≤ k_)) v0_ r ∧ Below w0.heap.size w0 w' ∧ Kept w w' (fun k_ => P0_ k_) := by
  have HO0 := iD.mk (show Kd.R (Kd.int .u8) 5 w w0.heap.size (fun k_ => (P0_ k_ ∨ w.heap.size ≤ k_)) u9000_ l0 from Kd.R_mono ho0 (fun k_ hk => (.inl hk)))
  have HR1 := iD.mk hr1
  have HC1 := iD.mk hc1
  clear hr1 hc1
  have HK := iD.mk (Kept.refl w (fun k_ => P0_ k_))
  have HW0 := iD.mk hB.size
  have HB := iD.mk hB
  clear hB
  have H : ((stratumref07_Put.f k l0 (IntKind.u64.wrap ((l1.length : Int))) 4).bind fun t156 => (stratumref07_Facts.l0 k t156 l1 0)) = some r := h
  clear h
  replace H := Option.bind_eq_some_iff.mp H
  obtain ⟨t156, A30, H⟩ := H
  replace H : (stratumref07_Facts.l0 k t156 l1 0) = some r := H
  have A3 := iD.mk A30
  clear A30
  have H' := iD.mk H
  clear H
  obtain ⟨Ao4, co4, eo4⟩ := Kd.R_slice HO0.out
  subst eo4
  go_enter Tryd.func59, Tryd.ntmps59
  go_wp2_with (first | ((with_reducible refine jR (f := 57) rfl ?_); refine lY (some 11) rfl rfl Tryd.func57 (by kernel_rfl) rfl #[.slice Ao4 l0.length co4, .int .u64 (IntKind.u64.wrap ((l1.length : Int))), .int .i64 4] rfl (by (try simp only [List.map_toArray, List.map_cons, List.map_nil]); first | done | rfl | (simp only [List.length_drop, List.length_take]; rfl)) ?_; (with_reducible refine (stratumref07_Put.calls k (fun k_ => some k_ = (.slice Ao4 l0.length co4 : Value).ownBlock) (.slice Ao4 l0.length co4) l0 (IntKind.u64.wrap ((l1.length : Int))) 4 t156 w0 _ ?side1 ?side2 A3.out).mono ?_); (case side1 => repeat (first | (with_reducible first | exact HB.out | apply iF | apply iG | apply iH) | exact HB.out)); (case side2 => exact Kd.R_tight rfl HO0.out); rintro e w5 ⟨v157, rfl, ho0, hb, hkp⟩; refine ⟨_, rfl, ?_⟩; have n0_ := iD.mk (Kd.R_mono (ok' := fun k_ => (P0_ k_ ∨ w.heap.size ≤ k_)) ho0 (fun k_ hk_ => Or.elim hk_ (fun hs_ => (HO0.out.1 k_ (hs_).symm)) (fun hn_ => (.inr (Nat.le_trans (by first | exact HK.out.1 | exact (show Kept w _ (fun k_ => P0_ k_) from by repeat (first | (with_reducible first | exact HK.out | apply Kept.alloc | apply Kept.drewN | apply Kept.drew) | exact HK.out)).1) hn_))))); have n1_ := iD.mk (Kept.then_ (S := (fun k_ => P0_ k_)) (by repeat (first | (with_reducible first | exact HK.out | apply Kept.alloc | apply Kept.drewN | apply Kept.drew) | exact HK.out)) hkp (fun k_ hs_ => (fun e_ => (HO0.out.1 k_ e_.symm)) hs_)); have n2_ := iD.mk (hb); clear HK; clear HB; clear HO0; have HO158 := n0_; have HK := n1_; have HB := n2_; clear n0_ n1_ n2_; (try clear hb); (try clear hkp); (try clear ho0)))
  go_loopg [0, 5] k (fun kq v0 v5 w' => ∃ (x0_1 : List Int) (x5_1 : Int), v5 = .int .i64 x5_1 ∧ iD (stratumref07_Facts.l0 kq x0_1 l1 x5_1 = some r) ∧ iD (kq ≤ k) ∧ iD (Kd.R (Kd.int .u8) 5 w' w0.heap.size (fun k_ => (P0_ k_ ∨ w.heap.size ≤ k_)) v0 x0_1) ∧ iD (Kept w w' (fun k_ => P0_ k_)) ∧ iD (Below w0.heap.size w0 w'))
  case atStart => exact ⟨(t156), (0), (by first | rfl | (simp; done) | (simp [*]; done)), H', ⟨Nat.le_refl _⟩, ⟨by (with_reducible repeat (first | apply Kd.R_alloc | apply Kd.R_drewN | apply Kd.R_drew)); exact HO158.out⟩, ⟨by repeat (first | (with_reducible first | exact HK.out | apply Kept.alloc | apply Kept.drewN | apply Kept.drew) | exact HK.out)⟩, ⟨hb_⟩⟩
  case round =>
    clear H'
    try clear c1
    try clear p2
    try clear c5
    obtain ⟨x0_1, x5_1, rfl, HA, HK1, HO_0, HK, HB⟩ := hrel
    cases gk with
    | zero => exact absurd HA.out (by simp [stratumref07_Facts.l0])
    | succ k1 =>
      have H := HA.out
      clear HA
      simp only [stratumref07_Facts.l0] at H
      by_cases c6 : x5_1 < (l1.length : Int)
      · rw [if_pos c6] at H
        have c6b0 : decide (x5_1 < (l1.length : Int)) = true := decide_eq_true c6
        clear c6
        by_cases c7 : 0 ≤ x5_1
        · rw [if_pos c7] at H
          have c7b0 : decide (0 ≤ x5_1) = true := decide_eq_true c7
          clear c7
          replace H := Option.bind_eq_some_iff.mp H
          obtain ⟨t160, A80, H⟩ := H
          replace H : (stratumref07_Facts.l1 k1 t160 l1 x5_1 0) = some r := H
          have A8 := iD.mk A80
          clear A80
          have H' := iD.mk H
          clear H
          have p159 : 0 ≤ (x5_1 : Int) := of_decide_eq_true asm_
          have q159 : x5_1 < (l1.length : Int) := of_decide_eq_true asm_
          obtain ⟨ad159, A159_0, c159_0, e159, hx159_0, hx159_1, hl159_0, hi159_0⟩ := kG (Kd.C_kept_now HR1.out HK.out) x5_1 p159 q159
          cases e159
          have HR159_0 := iD.mk hi159_0
          have HC159_0 := iD.mk hl159_0
          clear hi159_0 hl159_0
          replace p159 := eq_true p159
          replace q159 := eq_true q159
          obtain ⟨Ao9, co9, eo9⟩ := Kd.R_slice HO_0.out
          subst eo9
          go_wp2_with (first | ((with_reducible refine jR (f := 57) rfl ?_); refine lY (some 26) rfl rfl Tryd.func57 (by kernel_rfl) rfl #[.slice Ao9 x0_1.length co9, .int .u64 (IntKind.u64.wrap ((((iU l1 x5_1).f0).length : Int))), .int .i64 1] rfl (by (try simp only [List.map_toArray, List.map_cons, List.map_nil]); first | done | rfl | (simp only [List.length_drop, List.length_take]; rfl)) ?_; (with_reducible refine (stratumref07_Put.calls k1 (fun k_ => some k_ = (.slice Ao9 x0_1.length co9 : Value).ownBlock) (.slice Ao9 x0_1.length co9) x0_1 (IntKind.u64.wrap ((((iU l1 x5_1).f0).length : Int))) 1 t160 w0 _ ?side1 ?side2 A8.out).mono ?_); (case side1 => repeat (first | (with_reducible first | exact HB.out | apply iF | apply iG | apply iH) | exact HB.out)); (case side2 => exact Kd.R_tight rfl HO_0.out); rintro e w10 ⟨v161, rfl, ho0, hb, hkp⟩; refine ⟨_, rfl, ?_⟩; have n0_ := iD.mk (Kd.R_mono (ok' := fun k_ => (P0_ k_ ∨ w.heap.size ≤ k_)) ho0 (fun k_ hk_ => Or.elim hk_ (fun hs_ => (HO_0.out.1 k_ (hs_).symm)) (fun hn_ => (.inr (Nat.le_trans (by first | exact HK.out.1 | exact (show Kept w _ (fun k_ => P0_ k_) from by repeat (first | (with_reducible first | exact HK.out | apply Kept.alloc | apply Kept.drewN | apply Kept.drew) | exact HK.out)).1) hn_))))); have n1_ := iD.mk (Kept.then_ (S := (fun k_ => P0_ k_)) (by repeat (first | (with_reducible first | exact HK.out | apply Kept.alloc | apply Kept.drewN | apply Kept.drew) | exact HK.out)) hkp (fun k_ hs_ => (fun e_ => (HO_0.out.1 k_ e_.symm)) hs_)); have n2_ := iD.mk (hb); clear HK; clear HB; clear HO_0; have HO162 := n0_; have HK := n1_; have HB := n2_; clear n0_ n1_ n2_; (try clear hb); (try clear hkp); (try clear ho0)))
          go_loopg [0, 6] k1 (fun kq v0 v6 w' => ∃ (x0_2 : List Int) (x6_2 : Int), v6 = .int .i64 x6_2 ∧ iD (stratumref07_Facts.l1 kq x0_2 l1 x5_1 x6_2 = some r) ∧ iD (kq ≤ k1) ∧ iD (Kd.R (Kd.int .u8) 5 w' w0.heap.size (fun k_ => (P0_ k_ ∨ w.heap.size ≤ k_)) v0 x0_2) ∧ iD (Kept w w' (fun k_ => P0_ k_)) ∧ iD (Below w0.heap.size w0 w'))
          case atStart => exact ⟨(t160), (0), (by first | rfl | (simp; done) | (simp [*]; done)), H', ⟨Nat.le_refl _⟩, ⟨by (with_reducible repeat (first | apply Kd.R_alloc | apply Kd.R_drewN | apply Kd.R_drew)); exact HO162.out⟩, ⟨by repeat (first | (with_reducible first | exact HK.out | apply Kept.alloc | apply Kept.drewN | apply Kept.drew) | exact HK.out)⟩, ⟨hb_⟩⟩
          case round =>
            clear H'
            try clear c1
            try clear p1
            try clear q1
            try clear hx1
            try clear p2
            try clear c5
            try clear c6
            try clear c6b0
            try clear c7
            try clear c7b0
            try clear hx159_0
            try clear hx159_1
            try clear p159
            try clear p2
            try clear q159
            obtain ⟨x0_2, x6_2, rfl, HA, HK2, HO_0, HK, HB⟩ := hrel
            cases gk with
            | zero => exact absurd HA.out (by simp [stratumref07_Facts.l1])
            | succ k2 =>
              have H := HA.out
              clear HA
              simp only [stratumref07_Facts.l1] at H
              by_cases c11 : 0 ≤ x5_1
              · rw [if_pos c11] at H
                have c11b0 : decide (0 ≤ x5_1) = true := decide_eq_true c11
                clear c11
                by_cases c12 : x5_1 < (l1.length : Int)
                · rw [if_pos c12] at H
                  have c12b0 : decide (x5_1 < (l1.length : Int)) = true := decide_eq_true c12
                  clear c12
                  by_cases c13 : x6_2 < (((iU l1 x5_1).f0).length : Int)
                  · rw [if_pos c13] at H
                    have c13b0 : decide (x6_2 < (((iU l1 x5_1).f0).length : Int)) = true := decide_eq_true c13
                    clear c13
                    by_cases c14 : 0 ≤ x6_2
                    · rw [if_pos c14] at H
                      have c14b0 : decide (0 ≤ x6_2) = true := decide_eq_true c14
                      clear c14
                      replace H := Option.bind_eq_some_iff.mp H
                      obtain ⟨t166, A150, H⟩ := H
                      replace H : (stratumref07_Facts.l1 k2 t166 l1 x5_1 (wrap64 (x6_2 + 1))) = some r := H
                      have A15 := iD.mk A150
                      clear A150
                      have H' := iD.mk H
                      clear H
                      have p163 : 0 ≤ (x5_1 : Int) := of_decide_eq_true asm_
                      have q163 : x5_1 < (l1.length : Int) := of_decide_eq_true asm_
                      obtain ⟨ad163, A163_0, c163_0, e163, hx163_0, hx163_1, hl163_0, hi163_0⟩ := kG (Kd.C_kept_now HR1.out HK.out) x5_1 p163 q163
                      obtain rfl : ad159 = ad163 := (by injection e163)
                      have HR163_0 := iD.mk hi163_0
                      have HC163_0 := iD.mk hl163_0
                      clear hi163_0 hl163_0
                      replace p163 := eq_true p163
                      replace q163 := eq_true q163
                      have p164 : 0 ≤ (x5_1 : Int) := of_decide_eq_true asm_
                      have q164 : x5_1 < (l1.length : Int) := of_decide_eq_true asm_
                      obtain ⟨ad164, A164_0, c164_0, e164, hx164_0, hx164_1, hl164_0, hi164_0⟩ := kG (Kd.C_kept_now HR1.out HK.out) x5_1 p164 q164
                      obtain rfl : ad159 = ad164 := (by injection e164)
                      have HR164_0 := iD.mk hi164_0
                      have HC164_0 := iD.mk hl164_0
                      clear hi164_0 hl164_0
                      replace p164 := eq_true p164
                      replace q164 := eq_true q164
                      have ea_ := Option.some.inj (hx163_0.symm.trans hx164_0)
                      injection ea_ with ea_ en_ ec_
                      subst ea_
                      subst ec_
                      clear en_
                      have p165 : 0 ≤ (x6_2 : Int) := of_decide_eq_true asm_
                      have q165 : x6_2 < (((iU l1 x5_1).f0).length : Int) := of_decide_eq_true asm_
                      obtain ⟨ad165, e165, hx165_0⟩ := Kd.at_int (by repeat (first | (with_reducible exact HR164_0.out) | (with_reducible refine Kd.C_alloc ?_ _) | (with_reducible refine Kd.C_drewN ?_ _) | (with_reducible refine Kd.C_drew ?_) | exact HR164_0.out)) x6_2 p165 q165
                      cases e165
                      replace p165 := eq_true p165
                      replace q165 := eq_true q165
                      obtain ⟨Ao16, co16, eo16⟩ := Kd.R_slice HO_0.out
                      subst eo16
                      go_wp2_with (first | ((with_reducible refine jR (f := 57) rfl ?_); refine lY (some 47) rfl rfl Tryd.func57 (by kernel_rfl) rfl #[.slice Ao16 x0_2.length co16, .int .u64 (IntKind.u64.wrap (rd ((iU l1 x5_1).f0) x6_2)), .int .i64 4] rfl (by (try simp only [List.map_toArray, List.map_cons, List.map_nil]); first | done | rfl | (simp only [List.length_drop, List.length_take]; rfl)) ?_; (with_reducible refine (stratumref07_Put.calls k2 (fun k_ => some k_ = (.slice Ao16 x0_2.length co16 : Value).ownBlock) (.slice Ao16 x0_2.length co16) x0_2 (IntKind.u64.wrap (rd ((iU l1 x5_1).f0) x6_2)) 4 t166 w0 _ ?side1 ?side2 A15.out).mono ?_); (case side1 => repeat (first | (with_reducible first | exact HB.out | apply iF | apply iG | apply iH) | exact HB.out)); (case side2 => exact Kd.R_tight rfl HO_0.out); rintro e w17 ⟨v167, rfl, ho0, hb, hkp⟩; refine ⟨_, rfl, ?_⟩; have n0_ := iD.mk (Kd.R_mono (ok' := fun k_ => (P0_ k_ ∨ w.heap.size ≤ k_)) ho0 (fun k_ hk_ => Or.elim hk_ (fun hs_ => (HO_0.out.1 k_ (hs_).symm)) (fun hn_ => (.inr (Nat.le_trans (by first | exact HK.out.1 | exact (show Kept w _ (fun k_ => P0_ k_) from by repeat (first | (with_reducible first | exact HK.out | apply Kept.alloc | apply Kept.drewN | apply Kept.drew) | exact HK.out)).1) hn_))))); have n1_ := iD.mk (Kept.then_ (S := (fun k_ => P0_ k_)) (by repeat (first | (with_reducible first | exact HK.out | apply Kept.alloc | apply Kept.drewN | apply Kept.drew) | exact HK.out)) hkp (fun k_ hs_ => (fun e_ => (HO_0.out.1 k_ e_.symm)) hs_)); have n2_ := iD.mk (hb); clear HK; clear HB; clear HO_0; have HO168 := n0_; have HK := n1_; have HB := n2_; clear n0_ n1_ n2_; (try clear hb); (try clear hkp); (try clear ho0)))
                      go_roundg k2
                      case measure => have := HK1.out; have := HK2.out; omega
                      case rel => exact ⟨(t166), (wrap64 (x6_2 + 1)), (by first | rfl | (simp; done) | (simp [*]; done)), H', ⟨by have := HK1.out; have := HK2.out; omega⟩, ⟨by (with_reducible repeat (first | apply Kd.R_alloc | apply Kd.R_drewN | apply Kd.R_drew)); exact HO168.out⟩, ⟨by repeat (first | (with_reducible first | exact HK.out | apply Kept.alloc | apply Kept.drewN | apply Kept.drew) | exact HK.out)⟩, ⟨hb_⟩⟩
                    · rw [if_neg c14] at H
                      exact absurd H (by simp)
                  · rw [if_neg c13] at H
                    have c13b0 : decide (x6_2 < (((iU l1 x5_1).f0).length : Int)) = false := decide_eq_false c13
                    clear c13
                    replace H := Option.bind_eq_some_iff.mp H
                    obtain ⟨t170, A180, H⟩ := H
                    replace H : (stratumref07_Facts.l0 k2 t170 l1 (wrap64 (x5_1 + 1))) = some r := H
                    have A18 := iD.mk A180
                    clear A180
                    have H' := iD.mk H
                    clear H
                    have p163 : 0 ≤ (x5_1 : Int) := of_decide_eq_true asm_
                    have q163 : x5_1 < (l1.length : Int) := of_decide_eq_true asm_
                    obtain ⟨ad163, A163_0, c163_0, e163, hx163_0, hx163_1, hl163_0, hi163_0⟩ := kG (Kd.C_kept_now HR1.out HK.out) x5_1 p163 q163
                    obtain rfl : ad159 = ad163 := (by injection e163)
                    have HR163_0 := iD.mk hi163_0
                    have HC163_0 := iD.mk hl163_0
                    clear hi163_0 hl163_0
                    replace p163 := eq_true p163
                    replace q163 := eq_true q163
                    have p169 : 0 ≤ (x5_1 : Int) := of_decide_eq_true asm_
                    have q169 : x5_1 < (l1.length : Int) := of_decide_eq_true asm_
                    obtain ⟨ad169, A169_0, c169_0, e169, hx169_0, hx169_1, hl169_0, hi169_0⟩ := kG (Kd.C_kept_now HR1.out HK.out) x5_1 p169 q169
                    obtain rfl : ad159 = ad169 := (by injection e169)
                    have HR169_0 := iD.mk hi169_0
                    have HC169_0 := iD.mk hl169_0
                    clear hi169_0 hl169_0
                    replace p169 := eq_true p169
                    replace q169 := eq_true q169
                    have ea_ := Option.some.inj (hx163_0.symm.trans hx169_0)
                    injection ea_ with ea_ en_ ec_
                    subst ea_
                    subst ec_
                    clear en_
                    obtain ⟨Ao19, co19, eo19⟩ := Kd.R_slice HO_0.out
                    subst eo19
                    go_wp2_with (first | ((with_reducible refine jR (f := 57) rfl ?_); refine lY (some 55) rfl rfl Tryd.func57 (by kernel_rfl) rfl #[.slice Ao19 x0_2.length co19, .int .u64 (IntKind.u64.wrap ((iU l1 x5_1).f1)), .int .i64 8] rfl (by (try simp only [List.map_toArray, List.map_cons, List.map_nil]); first | done | rfl | (simp only [List.length_drop, List.length_take]; rfl)) ?_; (with_reducible refine (stratumref07_Put.calls k2 (fun k_ => some k_ = (.slice Ao19 x0_2.length co19 : Value).ownBlock) (.slice Ao19 x0_2.length co19) x0_2 (IntKind.u64.wrap ((iU l1 x5_1).f1)) 8 t170 w0 _ ?side1 ?side2 A18.out).mono ?_); (case side1 => repeat (first | (with_reducible first | exact HB.out | apply iF | apply iG | apply iH) | exact HB.out)); (case side2 => exact Kd.R_tight rfl HO_0.out); rintro e w20 ⟨v171, rfl, ho0, hb, hkp⟩; refine ⟨_, rfl, ?_⟩; have n0_ := iD.mk (Kd.R_mono (ok' := fun k_ => (P0_ k_ ∨ w.heap.size ≤ k_)) ho0 (fun k_ hk_ => Or.elim hk_ (fun hs_ => (HO_0.out.1 k_ (hs_).symm)) (fun hn_ => (.inr (Nat.le_trans (by first | exact HK.out.1 | exact (show Kept w _ (fun k_ => P0_ k_) from by repeat (first | (with_reducible first | exact HK.out | apply Kept.alloc | apply Kept.drewN | apply Kept.drew) | exact HK.out)).1) hn_))))); have n1_ := iD.mk (Kept.then_ (S := (fun k_ => P0_ k_)) (by repeat (first | (with_reducible first | exact HK.out | apply Kept.alloc | apply Kept.drewN | apply Kept.drew) | exact HK.out)) hkp (fun k_ hs_ => (fun e_ => (HO_0.out.1 k_ e_.symm)) hs_)); have n2_ := iD.mk (hb); clear HK; clear HB; clear HO_0; have HO172 := n0_; have HK := n1_; have HB := n2_; clear n0_ n1_ n2_; (try clear hb); (try clear hkp); (try clear ho0)))
                    go_roundg k2
                    case measure => have := HK1.out; have := HK2.out; omega
                    case rel => exact ⟨(t170), (wrap64 (x5_1 + 1)), (by first | rfl | (simp; done) | (simp [*]; done)), H', ⟨by have := HK1.out; have := HK2.out; omega⟩, ⟨by (with_reducible repeat (first | apply Kd.R_alloc | apply Kd.R_drewN | apply Kd.R_drew)); exact HO172.out⟩, ⟨by repeat (first | (with_reducible first | exact HK.out | apply Kept.alloc | apply Kept.drewN | apply Kept.drew) | exact HK.out)⟩, ⟨hb_⟩⟩
                · rw [if_neg c12] at H
                  exact absurd H (by simp)
              · rw [if_neg c11] at H
                exact absurd H (by simp)
        · rw [if_neg c7] at H
          exact absurd H (by simp)
      · rw [if_neg c6] at H
        have c6b0 : decide (x5_1 < (l1.length : Int)) = false := decide_eq_false c6
        clear c6
        obtain rfl := Option.some.inj H
        go_wp2
        go_ret
        exact ⟨_, by first | rfl | (simp [iQ, iR] <;> rfl) | (simp [*, iQ, iR] <;> rfl), by (with_reducible repeat (first | apply Kd.R_alloc | apply Kd.R_drewN | apply Kd.R_drew)); exact HO_0.out, hb_, by repeat (first | (with_reducible first | exact HK.out | apply Kept.alloc | apply Kept.drewN | apply Kept.drew) | exact HK.out)⟩
end Go.Proofs.YtgfkgppomaapiaaDoor.K
end

section
namespace Go.Proofs.YtgfkgppomaapiaaDoor.K
open RowKit YtgfkgppomaapiaaDoorW.PrintWords YtgfkgppomaapiaaDoorW.PrintLast YtgfkgppomaapiaaDoorW.PrintMore My
theorem wrap_u64 (x : Int) : IntKind.u64.wrap x = x % 18446744073709551616 := by rfl
theorem TY (x : Int) (m : Nat) (hm : m < 8) : (shr .u64 (IntKind.u64.wrap x) (8 * (m : Int))) % 256 = (x / 256 ^ m) % 256 := by
  rw [wrap_u64]
  have h : m = 0 ∨ m = 1 ∨ m = 2 ∨ m = 3 ∨ m = 4 ∨ m = 5 ∨ m = 6 ∨ m = 7 := by omega
  unfold shr
  rw [show IntKind.u64.bits = 64 from rfl]
  rcases h with rfl | rfl | rfl | rfl | rfl | rfl | rfl | rfl <;> simp <;> omega
theorem nums_append (l m : List UInt8) : nums (l ++ m) = nums l ++ nums m := List.map_append ..
theorem PD (b : UInt8) (l : List UInt8) : nums (b :: l) = (b.toNat : Int) :: nums l := rfl
theorem WW (v : Int) : ((UInt8.ofNat (v % 256).toNat).toNat : Int) = v % 256 := by
  rw [UInt8.toNat_ofNat']
  omega
theorem Q8 (x : Int) : ∀ (n : Nat) (l : List Int), n ≤ 8 → l.length + n ≤ 140737488355328 → Ev (fun k => stratumref07_Put.l0 k l (IntKind.u64.wrap x) ((n : Int) - 1)) (l ++ nums (layB x n))
  | 0, l, _, _ => by
    refine Ev.step (f := fun _ => some l) (fun k => by simp only [stratumref07_Put.l0]; rw [if_neg (by omega)]) ?_
    simp only [layB, nums, List.map_nil, List.append_nil]
    exact Ev.now _
  | n + 1, l, hn, hl => by
    have e1 : ((n + 1 : Nat) : Int) - 1 = n := by omega
    have e2 : IntKind.u64.wrap ((n : Nat) : Int) = n := by rw [wrap_u64]; omega
    have e3 : IntKind.u64.wrap (8 * (n : Int)) = 8 * n := by rw [wrap_u64]; omega
    have e4 : wrap64 ((n : Int) - 1) = n - 1 := by unfold wrap64; omega
    rw [e1, layB, PD, WW]
    refine Ev.step (f := fun k => stratumref07_Put.l0 k (l ++ [x / 256 ^ n % 256]) (IntKind.u64.wrap x) ((n : Int) - 1)) (fun k => by simp only [stratumref07_Put.l0]; rw [if_pos (by omega), e2, e3, if_pos (by omega), if_pos (by omega), TY x n (by omega), e4]) ?_
    have := Q8 x n (l ++ [x / 256 ^ n % 256]) (by omega) (by rw [List.length_append]; simp only [List.length_cons, List.length_nil]; omega)
    rw [List.append_assoc] at this
    exact this
theorem xP (x : Int) (n : Nat) (l : List Int) (hn : n ≤ 8) (hl : l.length + n ≤ 140737488355328) : Ev (fun k => stratumref07_Put.f k l (IntKind.u64.wrap x) (n : Int)) (l ++ nums (layB x n)) := by
  unfold stratumref07_Put.f
  rw [show wrap64 ((n : Int) - 1) = n - 1 from by unfold wrap64; omega]
  exact Q8 x n l hn hl
theorem OE (l1 : List Int) (hn : l1.length ≤ 9223372036854775807) (d : Nat) : ∀ (i : Int) (l : List Int), 0 ≤ i → i ≤ l1.length → (l1.length : Int) - i = d → l.length + d ≤ 140737488355328 → Ev (fun k => stratumref07_Nodes.l0 k l l1 i) (l ++ nums ((l1.drop i.toNat).flatMap (layB · 1))) := by
  induction d with
  | zero =>
    intro i l h0 h1 hd hl
    rw [drop_end _ i (by omega)]
    refine Ev.step (f := fun _ => some l) (fun k => by simp only [stratumref07_Nodes.l0]; rw [if_neg (by omega)]) ?_
    simp only [List.flatMap_nil, nums, List.map_nil, List.append_nil]
    exact Ev.now _
  | succ d ih =>
    intro i l h0 h1 hd hl
    have hlt : i < (l1.length : Int) := by omega
    rw [qF 0 l1 i (by omega) h0, List.flatMap_cons, nums_append, ← List.append_assoc]
    refine Ev.step (f := fun k => (stratumref07_Put.f k l (IntKind.u64.wrap (rd l1 i)) 1).bind fun t => stratumref07_Nodes.l0 k t l1 (i + 1)) (fun k => by simp only [stratumref07_Nodes.l0]; rw [if_pos hlt, if_pos h0, mV h0 hlt hn]) ?_
    exact Ev.bind (xP (rd l1 i) 1 l (by omega) (by omega)) (ih (i + 1) _ (by omega) (by omega) (by omega) (by rw [List.length_append, jH, iP]; omega))
theorem QQ (l1 : List Int) (l : List Int) (hl : l.length + (kY l1).length ≤ 140737488355328) : Ev (fun k => stratumref07_Nodes.f k l l1) (l ++ nums (kY l1)) := by
  have hlen : (kY l1).length = 1 + l1.length := by
    unfold kY
    rw [List.length_append, iP]
    congr 1
    induction l1 with
    | nil => rfl
    | cons x l ih => rw [List.flatMap_cons, List.length_append, iP, List.length_cons]; have := ih (by rw [show (kY l).length = 1 + (l.flatMap (layB · 1)).length from by unfold kY; rw [List.length_append, iP]]; rw [show (kY (x :: l)).length = 1 + (1 + (l.flatMap (layB · 1)).length) from by unfold kY; rw [List.length_append, iP, List.flatMap_cons, List.length_append, iP]] at hl; omega); omega
  unfold kY
  rw [nums_append, ← List.append_assoc]
  exact Ev.bind (xP (l1.length : Int) 1 l (by omega) (by omega)) (OE l1 (by omega) l1.length 0 _ (by omega) (by omega) (by omega) (by rw [List.length_append, jH, iP]; omega))
theorem U3 (l1 : List jK) (i : Int) (h0 : 0 ≤ i) (hlt : i < l1.length) (hn : l1.length ≤ 9223372036854775807) (hk : (iU l1 i).f0.length ≤ 9223372036854775807) (R : List Int)
    (m : Nat) (hR : ∀ l : List Int, l.length + m ≤ 140737488355328 → Ev (fun k => stratumref07_Facts.l0 k l l1 (i + 1)) (l ++ R)) (d : Nat) : ∀ (j : Int) (l : List Int), 0 ≤ j → j ≤ (iU l1 i).f0.length → ((iU l1 i).f0.length : Int) - j = d → l.length + 4 * d + 8 + m ≤ 140737488355328 →
    Ev (fun k => stratumref07_Facts.l1 k l l1 i j) (l ++ nums (((iU l1 i).f0.drop j.toNat).flatMap (layB · 4)) ++ nums (layB (iU l1 i).f1 8) ++ R) := by
  induction d with
  | zero =>
    intro j l g0 g1 hd hl
    rw [drop_end _ j (by omega)]
    refine Ev.step (f := fun k => (stratumref07_Put.f k l (IntKind.u64.wrap (iU l1 i).f1) 8).bind fun t => stratumref07_Facts.l0 k t l1 (i + 1)) (fun k => by simp only [stratumref07_Facts.l1]; rw [if_pos h0, if_pos hlt, if_neg (by omega), mV h0 hlt hn]) ?_
    simp only [List.flatMap_nil, nums, List.map_nil, List.append_nil]
    exact Ev.bind (xP _ 8 l (by omega) (by omega)) (hR _ (by rw [List.length_append, jH, iP]; omega))
  | succ d ih =>
    intro j l g0 g1 hd hl
    have hj : j < ((iU l1 i).f0.length : Int) := by omega
    rw [qF 0 _ j (by omega) g0, List.flatMap_cons, nums_append, ← List.append_assoc l]
    refine Ev.step (f := fun k => (stratumref07_Put.f k l (IntKind.u64.wrap (rd (iU l1 i).f0 j)) 4).bind fun t => stratumref07_Facts.l1 k t l1 i (j + 1)) (fun k => by simp only [stratumref07_Facts.l1]; rw [if_pos h0, if_pos hlt, if_pos hj, if_pos g0, mV g0 hj hk]) ?_
    exact Ev.bind (xP _ 4 l (by omega) (by omega)) (ih (j + 1) _ (by omega) (by omega) (by omega) (by rw [List.length_append, jH, iP]; omega))
theorem ND (l1 : List jK) (hn : l1.length ≤ 9223372036854775807) (hk : ∀ f ∈ l1, f.f0.length ≤ 9223372036854775807) (d : Nat) : ∀ (i : Int) (l : List Int), 0 ≤ i → i ≤ l1.length → (l1.length : Int) - i = d → l.length + ((l1.drop i.toNat).flatMap mJ).length ≤ 140737488355328 →
    Ev (fun k => stratumref07_Facts.l0 k l l1 i) (l ++ nums ((l1.drop i.toNat).flatMap mJ)) := by
  induction d with
  | zero =>
    intro i l h0 h1 hd hl
    rw [drop_end _ i (by omega)]
    refine Ev.step (f := fun _ => some l) (fun k => by simp only [stratumref07_Facts.l0]; rw [if_neg (by omega)]) ?_
    simp only [List.flatMap_nil, nums, List.map_nil, List.append_nil]
    exact Ev.now _
  | succ d ih =>
    intro i l h0 h1 hd hl
    have hlt : i < (l1.length : Int) := by omega
    have hm : iU l1 i ∈ l1 := by
      unfold iU
      rw [List.getD_eq_getElem?_getD, List.getElem?_eq_getElem (show i.toNat < l1.length by omega)]
      exact List.getElem_mem _
    rw [qF z139 l1 i (by omega) h0, List.flatMap_cons, show l1.getD i.toNat z139 = iU l1 i from rfl] at hl ⊢
    rw [List.length_append, uB] at hl
    rw [nums_append]
    refine Ev.step (f := fun k => (stratumref07_Put.f k l (IntKind.u64.wrap ((iU l1 i).f0.length : Int)) 1).bind fun t => stratumref07_Facts.l1 k t l1 i 0) (fun k => by simp only [stratumref07_Facts.l0]; rw [if_pos hlt, if_pos h0]) ?_
    have hr := U3 l1 i h0 hlt hn (hk _ hm) (nums ((l1.drop (i + 1).toNat).flatMap mJ)) ((l1.drop (i + 1).toNat).flatMap mJ).length (fun t ht => ih (i + 1) t (by omega) (by omega) (by omega) ht) (iU l1 i).f0.length 0 (l ++ nums (layB ((iU l1 i).f0.length : Int) 1)) (by omega) (by omega) (by omega) (by rw [List.length_append, jH, iP]; omega)
    have e : l ++ (nums (mJ (iU l1 i)) ++ nums ((l1.drop (i + 1).toNat).flatMap mJ)) = l ++ nums (layB ((iU l1 i).f0.length : Int) 1) ++ nums (((iU l1 i).f0.drop (0 : Int).toNat).flatMap (layB · 4)) ++ nums (layB (iU l1 i).f1 8) ++ nums ((l1.drop (i + 1).toNat).flatMap mJ) := by
      unfold mJ
      rw [nums_append, nums_append]
      simp only [List.append_assoc]
      rfl
    rw [e]
    exact Ev.bind (xP _ 1 l (by omega) (by omega)) hr
theorem OO (l1 : List jK) : (jY l1).length = 4 + (l1.flatMap mJ).length := by unfold jY; rw [List.length_append, iP]
theorem UW (l1 : List jK) : 9 * l1.length ≤ (l1.flatMap mJ).length ∧ ∀ f ∈ l1, 4 * f.f0.length ≤ (l1.flatMap mJ).length := by
  induction l1 with
  | nil => exact ⟨by simp, fun f h => by cases h⟩
  | cons x l ih =>
    rw [List.flatMap_cons, List.length_append, uB, List.length_cons]
    refine ⟨by omega, fun f hf => ?_⟩
    rcases List.mem_cons.1 hf with rfl | hf
    · omega
    · have := ih.2 f hf; omega
theorem yD (l1 : List jK) (l : List Int) (hl : l.length + (jY l1).length ≤ 140737488355328) : Ev (fun k => stratumref07_Facts.f k l l1) (l ++ nums (jY l1)) := by
  rw [OO] at hl
  have hg := UW l1
  unfold jY
  rw [nums_append, ← List.append_assoc]
  exact Ev.bind (xP (l1.length : Int) 4 l (by omega) (by omega)) (ND l1 (by omega) (fun f hf => by have := hg.2 f hf; omega) l1.length 0 _ (by omega) (by omega) (by omega) (by rw [List.length_append, jH, iP]; show _ + (l1.flatMap mJ).length ≤ _; omega))
end Go.Proofs.YtgfkgppomaapiaaDoor.K
end

section
namespace Go.Proofs.YtgfkgppomaapiaaDoor.K
open RowKit YtgfkgppomaapiaaDoorW.PrintWords YtgfkgppomaapiaaDoorW.PrintLast YtgfkgppomaapiaaDoorW.PrintMore My
def zT (P0 : Nat → Prop) (r : List Int) (w0 w : World) (e : Ending) (w' : World) : Prop :=
  ∃ v' : Value, e = .returned v' ∧ Kd.R (Kd.int .u8) 5 w' w0.heap.size (fun k => P0 k ∨ w.heap.size ≤ k) v' r ∧ Below w0.heap.size w0 w' ∧ Kept w w' P0
theorem kX (P0 : Nat → Prop) (v : Value) (l : List Int) (x X : Int) (n : Nat) (nI : Int) (w0 w : World) (hX : X = IntKind.u64.wrap x) (hI : nI = n) (hn : n ≤ 8) (hl : l.length + n ≤ 140737488355328) (hB : Below w0.heap.size w0 w) (ho : Kd.R (Kd.int .u8) 5 w w0.heap.size P0 v l) :
    Calls Tryd.prog 57 #[v, .int .u64 X, .int .i64 nI] w (zT P0 (l ++ nums (layB x n)) w0 w) := by
  subst hI; subst hX
  obtain ⟨k, hk⟩ := (xP x n l hn hl).rounds
  exact stratumref07_Put.calls k P0 v l _ _ _ w0 w hB ho hk
theorem zC (P0 : Nat → Prop) (v : Value) (l : List Int) (A1 : Option Addr) (c1 : Nat) (l1 : List Int) (w0 w : World) (hl : l.length + (kY l1).length ≤ 140737488355328) (hB : Below w0.heap.size w0 w) (ho : Kd.R (Kd.int .u8) 5 w w0.heap.size P0 v l) (hr1 : ∀ W_, Kept w W_ (fun k_ => P0 k_) → Kd.C (Kd.int .i64) W_ A1 l1.length l1) (hc1 : l1.length ≤ c1) :
    Calls Tryd.prog 58 #[v, .slice A1 l1.length c1] w (zT P0 (l ++ nums (kY l1)) w0 w) := by
  obtain ⟨k, hk⟩ := (QQ l1 l hl).rounds
  exact stratumref07_Nodes.calls k P0 v l A1 c1 l1 _ w0 w hB ho hr1 hc1 hk
theorem zH (P0 : Nat → Prop) (v : Value) (l : List Int) (A1 : Option Addr) (c1 : Nat) (l1 : List jK) (w0 w : World) (hl : l.length + (jY l1).length ≤ 140737488355328) (hB : Below w0.heap.size w0 w) (ho : Kd.R (Kd.int .u8) 5 w w0.heap.size P0 v l) (hr1 : ∀ W_, Kept w W_ (fun k_ => P0 k_) → Kd.C k139 W_ A1 l1.length l1) (hc1 : l1.length ≤ c1) :
    Calls Tryd.prog 59 #[v, .slice A1 l1.length c1] w (zT P0 (l ++ nums (jY l1)) w0 w) := by
  obtain ⟨k, hk⟩ := (yD l1 l hl).rounds
  exact stratumref07_Facts.calls k P0 v l A1 c1 l1 _ w0 w hB ho hr1 hc1 hk
theorem yR (l : List jG) (k : Nat) (h : k < l.length) : (l.take (k + 1)).flatMap kQ = (l.take k).flatMap kQ ++ (layB (iV l k).f0 4 ++ jY (iV l k).f1) := by
  rw [nD z86 l k h, List.flatMap_append]
  congr 1
  simp only [List.flatMap_cons, List.flatMap_nil, List.append_nil]
  rfl
theorem OX (l : List jG) (k : Nat) (h : k < l.length) : ((l.take k).flatMap kQ).length + 4 + (jY (iV l k).f1).length ≤ (l.flatMap kQ).length := by
  have e : l = l.take (k + 1) ++ l.drop (k + 1) := (List.take_append_drop _ _).symm
  conv => rhs; rw [e]
  rw [List.flatMap_append, yR l k h]
  simp only [List.length_append, iP]
  omega
theorem vG (l : List jG) : (jT l).length = 4 + (l.flatMap kQ).length := by unfold jT; rw [List.length_append, iP]
theorem JR (l : List jG) : l.length ≤ (jT l).length := by
  rw [vG]
  induction l with
  | nil => simp
  | cons e l ih =>
    rw [List.flatMap_cons, List.length_append, List.length_cons]
    have : 4 ≤ (kQ e).length := by unfold kQ; rw [List.length_append, iP]; omega
    omega
set_option maxRecDepth 20000 in
set_option maxHeartbeats 4000000 in
theorem vS (P0 : Nat → Prop) (v : Value) (l0 : List Int) (A1 : Option Addr) (c1 : Nat) (l1 : List jG) (w0 w : World) (hl : l0.length + (jT l1).length ≤ 140737488355328) (hB : Below w0.heap.size w0 w) (ho : Kd.R (Kd.int .u8) 5 w w0.heap.size P0 v l0) (hP : ∀ k, P0 k → w0.heap.size ≤ k) (hr1 : Kd.C k86 w0 A1 l1.length l1) (hc1 : l1.length ≤ c1) :
    Calls Tryd.prog 60 #[v, .slice A1 l1.length c1] w (zT P0 (l0 ++ nums (jT l1)) w0 w) := by
  have HO := iD.mk (show Kd.R (Kd.int .u8) 5 w w0.heap.size (fun k => P0 k ∨ w.heap.size ≤ k) v l0 from Kd.R_mono ho (fun _ h => .inl h))
  have HR := iD.mk hr1
  have HP := iD.mk (show ∀ k, (P0 k ∨ w.heap.size ≤ k) → w0.heap.size ≤ k from fun k h => h.elim (hP k) (Nat.le_trans hB.size))
  have HB := iD.mk hB
  have HL := iD.mk hl
  have HK := iD.mk (Kept.refl w P0)
  have hge := JR l1
  have hmax : l1.length ≤ 140737488355328 := by omega
  rw [vG] at hl
  clear hr1 hB ho hge hP
  obtain ⟨Ao, co, rfl⟩ := Kd.R_slice HO.out
  go_enter Tryd.func60, Tryd.ntmps60
  go_wp2_with fail
  refine (kX _ _ l0 (l1.length : Int) _ 4 4 w0 _ (by rw [wrap_u64]; omega) rfl (by omega) (by omega) HB.out HO.out).mono ?_
  rintro e w1 ⟨v1, rfl, ho1, hb1, hk1⟩
  have HO1 := iD.mk (Kd.R_mono (ok' := fun k => P0 k ∨ w.heap.size ≤ k) ho1 (fun k h => h.elim id .inr))
  have HB1 := iD.mk hb1
  have HK1 := iD.mk (HK.out.then_ hk1 (fun _ h => h))
  clear ho1 hb1 hk1
  go_wp2_with fail
  go_loopg [0, 5] l1.length (fun gg s0 s5 wr => ∃ k : Nat, k ≤ l1.length ∧ l1.length - k ≤ gg ∧ s5 = .int .i64 k ∧ iD (Kd.R (Kd.int .u8) 5 wr w0.heap.size (fun k => P0 k ∨ w.heap.size ≤ k) s0 (l0 ++ nums (layB (l1.length : Int) 4) ++ nums ((l1.take k).flatMap kQ))) ∧ iD (Below w0.heap.size w0 wr) ∧ iD (Kept w wr P0))
  case atStart => exact ⟨0, Nat.zero_le _, by omega, rfl, ⟨by simpa [nums] using HO1.out⟩, HB1, HK1⟩
  case round =>
    clear HO1 HB1 HK1 HO HB HK
    obtain ⟨k, hk, hg, rfl, HO, HB, HK⟩ := hrel
    obtain ⟨Ao, co, rfl⟩ := Kd.R_slice HO.out
    by_cases hlt : k < l1.length
    · have hln := OX l1 k hlt
      have HT := iD.mk (yR l1 k hlt)
      obtain ⟨L, hL⟩ : ∃ L, L = l0 ++ nums (layB (l1.length : Int) 4) ++ nums ((l1.take k).flatMap kQ) := ⟨_, rfl⟩
      have hLl : L.length + 4 + (jY (iV l1 k).f1).length ≤ 140737488355328 := by rw [hL]; simp only [List.length_append, jH, iP]; omega
      rw [← hL] at HO ⊢
      have HLq := iD.mk hL
      clear hL hln
      obtain ⟨ad, A', c', eA, gx0, gx1, hl', hC'⟩ := kS HR.out k (by omega) (by omega)
      cases eA
      simp only [Int.toNat_natCast] at gx0 gx1
      have hx0 := kD HB.out gx0
      have hx1 := kD HB.out gx1
      have HC' := iD.mk hC'
      have HG := iD.mk (And.intro gx0 gx1)
      clear hC' gx0 gx1
      have hcall := kX (fun k => P0 k ∨ w.heap.size ≤ k) (.slice Ao L.length co) L (iV l1 k).f0 (IntKind.u64.wrap (iV l1 k).f0) 4 4 w0 wr rfl rfl (by omega) (by omega) HB.out HO.out
      go_wp2_with fail
      go_at_call 57
      (with_reducible refine hcall.mono ?_)
      clear hcall
      rintro e w2 ⟨v2, rfl, ho2, hb2, hk2⟩
      have HO2 := iD.mk (Kd.R_mono (ok' := fun k => P0 k ∨ w.heap.size ≤ k) ho2 (fun k h => h.elim id (fun h => .inr (Nat.le_trans HK.out.1 h))))
      have HB2 := iD.mk hb2
      have HK2 := iD.mk (HK.out.then_ hk2 (fun _ h => h))
      clear ho2 hb2 hk2 hx0 hx1
      have hx0 := kD HB2.out HG.out.1
      have hx1 := kD HB2.out HG.out.2
      obtain ⟨Ao2, co2, rfl⟩ := Kd.R_slice HO2.out
      have hlen2 : (L ++ nums (layB (iV l1 k).f0 4)).length + (jY (iV l1 k).f1).length ≤ 140737488355328 := by rw [List.length_append, jH, iP]; omega
      have HE := iD.mk (show (L ++ nums (layB (iV l1 k).f0 4)) ++ nums (jY (iV l1 k).f1) = l0 ++ nums (layB (l1.length : Int) 4) ++ nums ((l1.take (k + 1)).flatMap kQ) from by rw [HT.out, HLq.out, nums_append, nums_append]; simp only [List.append_assoc])
      generalize (L ++ nums (layB (iV l1 k).f0 4)) = L2 at *
      have hcall := zH (fun k => P0 k ∨ w.heap.size ≤ k) (.slice Ao2 L2.length co2) L2 A' c' (iV l1 k).f1 w0 w2 hlen2 HB2.out HO2.out (Kd.C_kept_came qC HC'.out HB2.out HP.out) hl'
      go_wp2_with fail
      go_at_call 59
      (with_reducible refine hcall.mono ?_)
      clear hcall
      rintro e w3 ⟨v3, rfl, ho3, hb3, hk3⟩
      have HO3 := iD.mk (Kd.R_mono (ok' := fun k => P0 k ∨ w.heap.size ≤ k) ho3 (fun k h => h.elim id (fun h => .inr (Nat.le_trans HK2.out.1 h))))
      have HB3 := iD.mk hb3
      have HK3 := iD.mk (HK2.out.then_ hk3 (fun _ h => h))
      clear ho3 hb3 hk3 hx0 hx1
      go_wp2_with fail
      go_roundg (l1.length - (k + 1))
      case measure => omega
      case rel => exact ⟨k + 1, by omega, by omega, by go_num, ⟨by rw [← HE.out]; exact HO3.out⟩, HB3, HK3⟩
    · have : k = l1.length := by omega
      subst this
      have HE := iD.mk (show l0 ++ nums (layB (l1.length : Int) 4) ++ nums ((l1.take l1.length).flatMap kQ) = l0 ++ nums (jT l1) from by rw [List.take_length, List.append_assoc, ← nums_append]; rfl)
      go_wp2
      go_ret
      exact ⟨_, rfl, by rw [← HE.out]; exact HO.out, HB.out, HK.out⟩
def stratumref07_Entries.f (l0 : List Int) (l1 : List jG) : Option (List Int) := if l0 = [] ∧ (jT l1).length ≤ 140737488355328 then some (nums (jT l1)) else none
theorem stratumref07_Entries.calls0 (A1 : Option Addr) (c1 : Nat) (l1 : List jG) (r : List Int) (w : World) (_hr0 : Kd.C (Kd.int .u8) w none ([] : List Int).length []) (_hc0 : 0 ≤ 0) (hr1 : Kd.C k86 w A1 l1.length l1) (hc1 : l1.length ≤ c1) (h : stratumref07_Entries.f ([] : List Int) l1 = some r) :
    Calls Tryd.prog 60 #[.slice none 0 0, .slice A1 l1.length c1] w fun e w' => ∃ v0_ : Value, e = .returned (v0_) ∧ Kd.R (Kd.int .u8) 5 w' w.heap.size (fun _ => True) v0_ r ∧ Below w.heap.size w w' := by
  unfold stratumref07_Entries.f at h
  split at h
  case isFalse => cases h
  rename_i hl
  obtain rfl := Option.some.inj h
  refine (vS (fun _ => False) (.slice none 0 0) [] A1 c1 l1 w w (by simpa using hl.2) (Below.refl _ _) (Kd.R_nil _ _ _ _ _) (fun _ h => h.elim) hr1 hc1).mono ?_
  rintro e w' ⟨v', rfl, h1, h2, _⟩
  exact ⟨v', rfl, Kd.R_mono h1 (fun _ _ => trivial), h2⟩
end Go.Proofs.YtgfkgppomaapiaaDoor.K
end

section
namespace Go.Proofs.YtgfkgppomaapiaaDoor.K
open RowKit YtgfkgppomaapiaaDoorW.PrintWords YtgfkgppomaapiaaDoorW.PrintLast YtgfkgppomaapiaaDoorW.PrintMore My
theorem kP {w1 w2 : World} {B : Nat} {o : Obj} (hk : Kept w1 w2 (fun k => B < k)) (hx : w1.heap[B]? = some o) : w2.heap[B]? = some o := (hk.2 B (jQ hx) (Nat.lt_irrefl B)).trans hx
theorem IR (w : World) (base : Nat) (x : Int) (B : Nat) (hb : base ≤ w.heap.size) (hB : B < w.heap.size) : Kd.R (Kd.int .u8) 5 (w.alloc (.cells #[.int .u8 x] 5)) base (fun k => B < k) (.slice (some ⟨w.heap.size, 0, none⟩) 1 1) [x] := by
  refine Kd.R_of_own (enc := Value.int .u8) (h1 := fun _ => rfl) ⟨rfl, .inr ⟨w.heap.size, 1, #[.int .u8 x], rfl, hb, jA rfl, Nat.le_refl _, by unfold maxLen; omega, rfl, rfl⟩⟩ ?_
  intro k hk
  have : w.heap.size = k := by simpa [Value.ownBlock] using hk
  omega
def oK (w : World) (r : List Int × Int) (e : Ending) (w' : World) : Prop := ∃ v0_ : Value, e = .returned (.tuple #[v0_, .int .i64 r.2]) ∧ Kd.R (Kd.int .u8) 5 w' w.heap.size (fun _ => True) v0_ r.1 ∧ Below w.heap.size w w'
theorem oH {w : World} {A4 A9 : Option Addr} {l3 : List Int} {l4 : List jK} {l6 : List jW} {l9 : List jG} {A3 A6 : Option Addr} (h3 : Kd.C (Kd.int .i64) w A3 l3.length l3) (h4 : Kd.C k139 w A4 l4.length l4) (h6 : Kd.C k98 w A6 l6.length l6) (h9 : Kd.C k86 w A9 l9.length l9) : QW l3 l4 l6 l9 := by
  have key : ∀ {A : Option Addr} {l : List jK}, Kd.C k139 w A l.length l → ∀ f ∈ l, f.f0.length ≤ 9223372036854775807 := by
    intro A l h f hf
    obtain ⟨i, hi, rfl⟩ := List.getElem_of_mem hf
    obtain ⟨_, _, _, _, _, _, _, hC⟩ := kG h i (by omega) (by omega)
    have e : iU l i = l[i] := by unfold iU; rw [Int.toNat_natCast, List.getD_eq_getElem?_getD, List.getElem?_eq_getElem hi]; rfl
    rw [e] at hC
    exact lH hC
  refine ⟨lH h3, lH h4, key h4, lH h6, lH h9, fun e he => ?_⟩
  obtain ⟨i, hi, rfl⟩ := List.getElem_of_mem he
  obtain ⟨_, _, _, _, _, _, _, hC⟩ := kS h9 i (by omega) (by omega)
  have e : iV l9 i = l9[i] := by unfold iV; rw [Int.toNat_natCast, List.getD_eq_getElem?_getD, List.getElem?_eq_getElem hi]; rfl
  rw [e] at hC
  exact ⟨lH hC, key hC⟩
section
variable (a1 a2 : Int) (A3 : Option Addr) (c3 : Nat) (l3 : List Int) (A4 : Option Addr) (c4 : Nat) (l4 : List jK) (a5 : Int) (A6 : Option Addr) (c6 : Nat) (l6 : List jW) (a7 a8 : Int) (A9 : Option Addr) (c9 : Nat) (l9 : List jG) (w : World)
    (h3 : Kd.C (Kd.int .i64) w A3 l3.length l3) (d3 : l3.length ≤ c3) (h4 : Kd.C k139 w A4 l4.length l4) (d4 : l4.length ≤ c4) (h6 : Kd.C k98 w A6 l6.length l6) (d6 : l6.length ≤ c6) (h9 : Kd.C k86 w A9 l9.length l9) (d9 : l9.length ≤ c9)
include h3 d3 h4 d4 h6 d6 h9 d9
set_option maxHeartbeats 8000000 in
set_option maxRecDepth 20000 in
theorem QI (hs : jL ⟨1, a1, a2, l3, l4, ⟨a5, l6⟩, a7, a8, l9⟩ = true) : Calls Tryd.prog 18 #[.agg #[.int .u8 1, .int .u32 a1, .int .u32 a2, .slice A3 l3.length c3, .slice A4 l4.length c4, .int .u32 a5, .slice A6 l6.length c6, .int .i64 a7, .int .i64 a8, .slice A9 l9.length c9]] w (oK w (encR ⟨1, a1, a2, l3, l4, ⟨a5, l6⟩, a7, a8, l9⟩)) := by
  obtain ⟨kk, hsk⟩ := (oC 1 a1 a2 l3 l4 a5 l6 a7 a8 l9 (oH h3 h4 h6 h9)).rounds
  rw [hs] at hsk
  have H3 := iD.mk h3; have H4 := iD.mk h4; have H6 := iD.mk h6; have H9 := iD.mk h9
  have hbw : Below w.heap.size w (w.alloc (.cells #[.int .u8 1, .int .u32 a1, .int .u32 a2, .slice A3 l3.length c3, .slice A4 l4.length c4, .int .u32 a5, .slice A6 l6.length c6, .int .i64 a7, .int .i64 a8, .slice A9 l9.length c9] 30)) := iF (Below.refl _ _) _
  have hsnd := stratumref07_Sound.calls kk 1 a1 a2 A3 c3 l3 A4 c4 l4 a5 A6 c6 l6 a7 a8 A9 c9 l9 true (w.alloc (.cells #[.int .u8 1, .int .u32 a1, .int .u32 a2, .slice A3 l3.length c3, .slice A4 l4.length c4, .int .u32 a5, .slice A6 l6.length c6, .int .i64 a7, .int .i64 a8, .slice A9 l9.length c9] 30)) (Kd.C_below h3 hbw) d3 (Kd.C_below h4 hbw) d4 (Kd.C_below h6 hbw) d6 (Kd.C_below h9 hbw) d9 hsk
  have HS := iD.mk hs
  have q3 : l3.length ≤ 6 ∧ (jY l4).length ≤ 5004 := by
    have h := HS.out
    rw [OU, Bool.and_eq_true, Bool.and_eq_true] at h
    exact ⟨oQ _ h.1.1, rF _ h.1.2⟩
  unfold encR
  rw [if_pos HS.out]
  obtain ⟨X, hX⟩ : ∃ X : List UInt8, X = recE ⟨1, a1, a2, l3, l4, ⟨a5, l6⟩, a7, a8, l9⟩ := ⟨_, rfl⟩
  rw [← hX]
  have HXX := iD.mk hX
  obtain ⟨r, hr⟩ : ∃ r : List Int × Int, r = (if 60000 < X.length then ([], 3) else (nums X, 0)) := ⟨_, rfl⟩
  rw [← hr]
  have HRR := iD.mk hr
  clear hr hs hX hsk hbw h3 h4 h6 h9
  go_enter Tryd.func18, Tryd.ntmps18
  go_wp2_with fail
  go_at_call 20
  (with_reducible refine hsnd.mono ?_)
  clear hsnd
  rintro e w0 ⟨rfl, hb1⟩
  have hB0 : Below w.heap.size w w0 := iL (iF (Below.refl _ _) _) hb1
  have hX0 : w0.heap[w.heap.size]? = some (.cells #[.int .u8 1, .int .u32 a1, .int .u32 a2, .slice A3 l3.length c3, .slice A4 l4.length c4, .int .u32 a5, .slice A6 l6.length c6, .int .i64 a7, .int .i64 a8, .slice A9 l9.length c9] 30 (0, 0)) := iO hb1 (jA rfl)
  obtain ⟨z0, z1, z2, z3, z4, z5, z6, z7, z8, z9, y0, y1, y2, y3, y4, y5, y6, y7, y8, y9⟩ := ten hX0
  have HO := iD.mk (IR w0 w.heap.size 1 w.heap.size hB0.size (jQ hX0))
  have HB := iD.mk (iF hB0 (.cells #[.int .u8 1] 5))
  have HX := iD.mk (jP (o := .cells #[.int .u8 1] 5) hX0)
  have HW1 := iD.mk (show w0.alloc (.cells #[.int .u8 1] 5) = w0.alloc (.cells #[.int .u8 1] 5) from rfl)
  clear hb1 hB0 hX0
  go_upto_region 4 with fail
  clear z0 z1 z2 z3 z4 z5 z6 z7 z8 z9 y0 y1 y2 y3 y4 y5 y6 y7 y8 y9
  obtain ⟨w1, hw1⟩ : ∃ x, x = w0.alloc (.cells #[.int .u8 1] 5) := ⟨_, rfl⟩
  rw [← hw1] at HO HB HX ⊢
  clear HW1
  have HW1 := iD.mk hw1
  clear hw1
  obtain ⟨L1, hL⟩ : ∃ l, l = [(1 : Int)] := ⟨_, rfl⟩
  have hn1 : L1.length ≤ 1 := by rw [hL]; simp
  rw [← hL] at HO
  have HL1 := iD.mk hL
  clear hL
  obtain ⟨z0, z1, z2, z3, z4, z5, z6, z7, z8, z9, y0, y1, y2, y3, y4, y5, y6, y7, y8, y9⟩ := ten HX.out
  have hcall := kX (fun k => w.heap.size < k) (.slice (some ⟨w0.heap.size, 0, none⟩) 1 1) L1 (a1) (IntKind.u64.wrap a1) 4 4 w w1 (by first | rfl | (rw [wrap_u64]; omega)) rfl (by omega) (by omega) HB.out HO.out
  go_wp2_with fail
  go_at_call 57
  (with_reducible refine hcall.mono ?_)
  clear hcall z0 z1 z2 z3 z4 z5 z6 z7 z8 z9 y0 y1 y2 y3 y4 y5 y6 y7 y8 y9
  rintro e w2 ⟨v2, rfl, ho, hb, hk⟩
  have HO' := iD.mk (Kd.R_mono (ok' := fun k => w.heap.size < k) ho (fun k h => h.elim id (fun h => Nat.lt_of_lt_of_le (jQ HX.out) h)))
  have HX' := iD.mk (kP hk HX.out)
  have HB' := iD.mk hb
  clear ho hb hk HO HX HB
  obtain ⟨HO, HX, HB⟩ : _ ∧ _ ∧ _ := ⟨HO', HX', HB'⟩
  clear HO' HX' HB'
  obtain ⟨Ao, co, rfl⟩ := Kd.R_slice HO.out
  obtain ⟨L2, hL⟩ : ∃ l, l = L1 ++ nums (layB a1 4) := ⟨_, rfl⟩
  have hn2 : L2.length ≤ 5 := by rw [hL]; simp only [List.length_append, jH, iP]; omega
  rw [← hL] at HO ⊢
  have HL2 := iD.mk hL
  clear hL hn1
  obtain ⟨z0, z1, z2, z3, z4, z5, z6, z7, z8, z9, y0, y1, y2, y3, y4, y5, y6, y7, y8, y9⟩ := ten HX.out
  have hcall := zC (fun k => w.heap.size < k) _ L2 A3 c3 l3 w w2 (by rw [iZ]; omega) HB.out HO.out (Kd.C_kept_came (Kd.heap_int .i64) H3.out HB.out (fun k h => Nat.le_of_lt h)) d3
  go_wp2_with fail
  go_at_call 58
  (with_reducible refine hcall.mono ?_)
  clear hcall z0 z1 z2 z3 z4 z5 z6 z7 z8 z9 y0 y1 y2 y3 y4 y5 y6 y7 y8 y9
  rintro e w3 ⟨v3, rfl, ho, hb, hk⟩
  have HO' := iD.mk (Kd.R_mono (ok' := fun k => w.heap.size < k) ho (fun k h => h.elim id (fun h => Nat.lt_of_lt_of_le (jQ HX.out) h)))
  have HX' := iD.mk (kP hk HX.out)
  have HB' := iD.mk hb
  clear ho hb hk HO HX HB
  obtain ⟨HO, HX, HB⟩ : _ ∧ _ ∧ _ := ⟨HO', HX', HB'⟩
  clear HO' HX' HB'
  obtain ⟨Ao, co, rfl⟩ := Kd.R_slice HO.out
  obtain ⟨L3, hL⟩ : ∃ l, l = L2 ++ nums (kY l3) := ⟨_, rfl⟩
  have hn3 : L3.length ≤ 12 := by rw [hL]; simp only [List.length_append, jH, iP, iZ]; omega
  rw [← hL] at HO ⊢
  have HL3 := iD.mk hL
  clear hL hn2
  obtain ⟨z0, z1, z2, z3, z4, z5, z6, z7, z8, z9, y0, y1, y2, y3, y4, y5, y6, y7, y8, y9⟩ := ten HX.out
  have hcall := zH (fun k => w.heap.size < k) _ L3 A4 c4 l4 w w3 (by omega) HB.out HO.out (Kd.C_kept_came qC H4.out HB.out (fun k h => Nat.le_of_lt h)) d4
  go_wp2_with fail
  go_at_call 59
  (with_reducible refine hcall.mono ?_)
  clear hcall z0 z1 z2 z3 z4 z5 z6 z7 z8 z9 y0 y1 y2 y3 y4 y5 y6 y7 y8 y9
  rintro e w4 ⟨v4, rfl, ho, hb, hk⟩
  have HO' := iD.mk (Kd.R_mono (ok' := fun k => w.heap.size < k) ho (fun k h => h.elim id (fun h => Nat.lt_of_lt_of_le (jQ HX.out) h)))
  have HX' := iD.mk (kP hk HX.out)
  have HB' := iD.mk hb
  clear ho hb hk HO HX HB
  obtain ⟨HO, HX, HB⟩ : _ ∧ _ ∧ _ := ⟨HO', HX', HB'⟩
  clear HO' HX' HB'
  obtain ⟨Ao, co, rfl⟩ := Kd.R_slice HO.out
  obtain ⟨L4, hL⟩ : ∃ l, l = L3 ++ nums (jY l4) := ⟨_, rfl⟩
  have hn4 : L4.length ≤ 5016 := by rw [hL]; simp only [List.length_append, jH, iP]; omega
  rw [← hL] at HO ⊢
  have HL4 := iD.mk hL
  clear hL hn3
  obtain ⟨z0, z1, z2, z3, z4, z5, z6, z7, z8, z9, y0, y1, y2, y3, y4, y5, y6, y7, y8, y9⟩ := ten HX.out
  have HLX := iD.mk (show L4 = nums X from by rw [HL4.out, HL3.out, HL2.out, HL1.out, HXX.out, VP]; simp only [List.nil_append, nums_append]; rfl)
  by_cases hq : (60000 : Int) < (L4.length : Int)
  · have HP : iD (r = ([], 3)) := ⟨by rw [HRR.out, if_pos (by rw [HLX.out, jH] at hq; omega)]⟩
    go_wp2_with fail
    go_ret2
    rw [HP.out]
    exact ⟨_, rfl, Kd.R_nil _ _ _ _ _, HB.out⟩
  · have HP : iD (r = (nums X, 0)) := ⟨by rw [HRR.out, if_neg (by rw [HLX.out, jH] at hq; omega)]⟩
    go_wp2_with fail
    go_ret2
    rw [HP.out]
    exact ⟨_, rfl, by rw [← HLX.out]; exact Kd.R_mono HO.out (fun _ _ => trivial), HB.out⟩
set_option maxHeartbeats 8000000 in
set_option maxRecDepth 20000 in
theorem QR (hs : jL ⟨2, a1, a2, l3, l4, ⟨a5, l6⟩, a7, a8, l9⟩ = true) : Calls Tryd.prog 18 #[.agg #[.int .u8 2, .int .u32 a1, .int .u32 a2, .slice A3 l3.length c3, .slice A4 l4.length c4, .int .u32 a5, .slice A6 l6.length c6, .int .i64 a7, .int .i64 a8, .slice A9 l9.length c9]] w (oK w (encR ⟨2, a1, a2, l3, l4, ⟨a5, l6⟩, a7, a8, l9⟩)) := by
  obtain ⟨kk, hsk⟩ := (oC 2 a1 a2 l3 l4 a5 l6 a7 a8 l9 (oH h3 h4 h6 h9)).rounds
  rw [hs] at hsk
  have H3 := iD.mk h3; have H4 := iD.mk h4; have H6 := iD.mk h6; have H9 := iD.mk h9
  have hbw : Below w.heap.size w (w.alloc (.cells #[.int .u8 2, .int .u32 a1, .int .u32 a2, .slice A3 l3.length c3, .slice A4 l4.length c4, .int .u32 a5, .slice A6 l6.length c6, .int .i64 a7, .int .i64 a8, .slice A9 l9.length c9] 30)) := iF (Below.refl _ _) _
  have hsnd := stratumref07_Sound.calls kk 2 a1 a2 A3 c3 l3 A4 c4 l4 a5 A6 c6 l6 a7 a8 A9 c9 l9 true (w.alloc (.cells #[.int .u8 2, .int .u32 a1, .int .u32 a2, .slice A3 l3.length c3, .slice A4 l4.length c4, .int .u32 a5, .slice A6 l6.length c6, .int .i64 a7, .int .i64 a8, .slice A9 l9.length c9] 30)) (Kd.C_below h3 hbw) d3 (Kd.C_below h4 hbw) d4 (Kd.C_below h6 hbw) d6 (Kd.C_below h9 hbw) d9 hsk
  have HS := iD.mk hs
  have q3 : l3.length ≤ 6 := by
    have h := HS.out
    rw [Q4, Bool.and_eq_true] at h
    exact oQ _ h.1
  unfold encR
  rw [if_pos HS.out]
  obtain ⟨X, hX⟩ : ∃ X : List UInt8, X = recE ⟨2, a1, a2, l3, l4, ⟨a5, l6⟩, a7, a8, l9⟩ := ⟨_, rfl⟩
  rw [← hX]
  have HXX := iD.mk hX
  obtain ⟨r, hr⟩ : ∃ r : List Int × Int, r = (if 60000 < X.length then ([], 3) else (nums X, 0)) := ⟨_, rfl⟩
  rw [← hr]
  have HRR := iD.mk hr
  clear hr hs hX hsk hbw h3 h4 h6 h9
  go_enter Tryd.func18, Tryd.ntmps18
  go_wp2_with fail
  go_at_call 20
  (with_reducible refine hsnd.mono ?_)
  clear hsnd
  rintro e w0 ⟨rfl, hb1⟩
  have hB0 : Below w.heap.size w w0 := iL (iF (Below.refl _ _) _) hb1
  have hX0 : w0.heap[w.heap.size]? = some (.cells #[.int .u8 2, .int .u32 a1, .int .u32 a2, .slice A3 l3.length c3, .slice A4 l4.length c4, .int .u32 a5, .slice A6 l6.length c6, .int .i64 a7, .int .i64 a8, .slice A9 l9.length c9] 30 (0, 0)) := iO hb1 (jA rfl)
  obtain ⟨z0, z1, z2, z3, z4, z5, z6, z7, z8, z9, y0, y1, y2, y3, y4, y5, y6, y7, y8, y9⟩ := ten hX0
  have HO := iD.mk (IR w0 w.heap.size 2 w.heap.size hB0.size (jQ hX0))
  have HB := iD.mk (iF hB0 (.cells #[.int .u8 2] 5))
  have HX := iD.mk (jP (o := .cells #[.int .u8 2] 5) hX0)
  have HW1 := iD.mk (show w0.alloc (.cells #[.int .u8 2] 5) = w0.alloc (.cells #[.int .u8 2] 5) from rfl)
  clear hb1 hB0 hX0
  go_upto_region 4 with fail
  clear z0 z1 z2 z3 z4 z5 z6 z7 z8 z9 y0 y1 y2 y3 y4 y5 y6 y7 y8 y9
  obtain ⟨w1, hw1⟩ : ∃ x, x = w0.alloc (.cells #[.int .u8 2] 5) := ⟨_, rfl⟩
  rw [← hw1] at HO HB HX ⊢
  clear HW1
  have HW1 := iD.mk hw1
  clear hw1
  obtain ⟨L1, hL⟩ : ∃ l, l = [(2 : Int)] := ⟨_, rfl⟩
  have hn1 : L1.length ≤ 1 := by rw [hL]; simp
  rw [← hL] at HO
  have HL1 := iD.mk hL
  clear hL
  obtain ⟨z0, z1, z2, z3, z4, z5, z6, z7, z8, z9, y0, y1, y2, y3, y4, y5, y6, y7, y8, y9⟩ := ten HX.out
  have hcall := kX (fun k => w.heap.size < k) (.slice (some ⟨w0.heap.size, 0, none⟩) 1 1) L1 (a1) (IntKind.u64.wrap a1) 4 4 w w1 (by first | rfl | (rw [wrap_u64]; omega)) rfl (by omega) (by omega) HB.out HO.out
  go_wp2_with fail
  go_at_call 57
  (with_reducible refine hcall.mono ?_)
  clear hcall z0 z1 z2 z3 z4 z5 z6 z7 z8 z9 y0 y1 y2 y3 y4 y5 y6 y7 y8 y9
  rintro e w2 ⟨v2, rfl, ho, hb, hk⟩
  have HO' := iD.mk (Kd.R_mono (ok' := fun k => w.heap.size < k) ho (fun k h => h.elim id (fun h => Nat.lt_of_lt_of_le (jQ HX.out) h)))
  have HX' := iD.mk (kP hk HX.out)
  have HB' := iD.mk hb
  clear ho hb hk HO HX HB
  obtain ⟨HO, HX, HB⟩ : _ ∧ _ ∧ _ := ⟨HO', HX', HB'⟩
  clear HO' HX' HB'
  obtain ⟨Ao, co, rfl⟩ := Kd.R_slice HO.out
  obtain ⟨L2, hL⟩ : ∃ l, l = L1 ++ nums (layB a1 4) := ⟨_, rfl⟩
  have hn2 : L2.length ≤ 5 := by rw [hL]; simp only [List.length_append, jH, iP]; omega
  rw [← hL] at HO ⊢
  have HL2 := iD.mk hL
  clear hL hn1
  obtain ⟨z0, z1, z2, z3, z4, z5, z6, z7, z8, z9, y0, y1, y2, y3, y4, y5, y6, y7, y8, y9⟩ := ten HX.out
  have hcall := kX (fun k => w.heap.size < k) _ L2 (a2) (IntKind.u64.wrap a2) 4 4 w w2 (by first | rfl | (rw [wrap_u64]; omega)) rfl (by omega) (by omega) HB.out HO.out
  go_wp2_with fail
  go_at_call 57
  (with_reducible refine hcall.mono ?_)
  clear hcall z0 z1 z2 z3 z4 z5 z6 z7 z8 z9 y0 y1 y2 y3 y4 y5 y6 y7 y8 y9
  rintro e w3 ⟨v3, rfl, ho, hb, hk⟩
  have HO' := iD.mk (Kd.R_mono (ok' := fun k => w.heap.size < k) ho (fun k h => h.elim id (fun h => Nat.lt_of_lt_of_le (jQ HX.out) h)))
  have HX' := iD.mk (kP hk HX.out)
  have HB' := iD.mk hb
  clear ho hb hk HO HX HB
  obtain ⟨HO, HX, HB⟩ : _ ∧ _ ∧ _ := ⟨HO', HX', HB'⟩
  clear HO' HX' HB'
  obtain ⟨Ao, co, rfl⟩ := Kd.R_slice HO.out
  obtain ⟨L3, hL⟩ : ∃ l, l = L2 ++ nums (layB a2 4) := ⟨_, rfl⟩
  have hn3 : L3.length ≤ 9 := by rw [hL]; simp only [List.length_append, jH, iP]; omega
  rw [← hL] at HO ⊢
  have HL3 := iD.mk hL
  clear hL hn2
  obtain ⟨z0, z1, z2, z3, z4, z5, z6, z7, z8, z9, y0, y1, y2, y3, y4, y5, y6, y7, y8, y9⟩ := ten HX.out
  have hcall := zC (fun k => w.heap.size < k) _ L3 A3 c3 l3 w w3 (by rw [iZ]; omega) HB.out HO.out (Kd.C_kept_came (Kd.heap_int .i64) H3.out HB.out (fun k h => Nat.le_of_lt h)) d3
  go_wp2_with fail
  go_at_call 58
  (with_reducible refine hcall.mono ?_)
  clear hcall z0 z1 z2 z3 z4 z5 z6 z7 z8 z9 y0 y1 y2 y3 y4 y5 y6 y7 y8 y9
  rintro e w4 ⟨v4, rfl, ho, hb, hk⟩
  have HO' := iD.mk (Kd.R_mono (ok' := fun k => w.heap.size < k) ho (fun k h => h.elim id (fun h => Nat.lt_of_lt_of_le (jQ HX.out) h)))
  have HX' := iD.mk (kP hk HX.out)
  have HB' := iD.mk hb
  clear ho hb hk HO HX HB
  obtain ⟨HO, HX, HB⟩ : _ ∧ _ ∧ _ := ⟨HO', HX', HB'⟩
  clear HO' HX' HB'
  obtain ⟨Ao, co, rfl⟩ := Kd.R_slice HO.out
  obtain ⟨L4, hL⟩ : ∃ l, l = L3 ++ nums (kY l3) := ⟨_, rfl⟩
  have hn4 : L4.length ≤ 16 := by rw [hL]; simp only [List.length_append, jH, iP, iZ]; omega
  rw [← hL] at HO ⊢
  have HL4 := iD.mk hL
  clear hL hn3
  obtain ⟨z0, z1, z2, z3, z4, z5, z6, z7, z8, z9, y0, y1, y2, y3, y4, y5, y6, y7, y8, y9⟩ := ten HX.out
  have HLX := iD.mk (show L4 = nums X from by rw [HL4.out, HL3.out, HL2.out, HL1.out, HXX.out, UT]; simp only [List.nil_append, nums_append]; rfl)
  by_cases hq : (60000 : Int) < (L4.length : Int)
  · have HP : iD (r = ([], 3)) := ⟨by rw [HRR.out, if_pos (by rw [HLX.out, jH] at hq; omega)]⟩
    go_wp2_with fail
    go_ret2
    rw [HP.out]
    exact ⟨_, rfl, Kd.R_nil _ _ _ _ _, HB.out⟩
  · have HP : iD (r = (nums X, 0)) := ⟨by rw [HRR.out, if_neg (by rw [HLX.out, jH] at hq; omega)]⟩
    go_wp2_with fail
    go_ret2
    rw [HP.out]
    exact ⟨_, rfl, by rw [← HLX.out]; exact Kd.R_mono HO.out (fun _ _ => trivial), HB.out⟩
set_option maxHeartbeats 8000000 in
set_option maxRecDepth 20000 in
theorem PN (hs : jL ⟨3, a1, a2, l3, l4, ⟨a5, l6⟩, a7, a8, l9⟩ = true) : Calls Tryd.prog 18 #[.agg #[.int .u8 3, .int .u32 a1, .int .u32 a2, .slice A3 l3.length c3, .slice A4 l4.length c4, .int .u32 a5, .slice A6 l6.length c6, .int .i64 a7, .int .i64 a8, .slice A9 l9.length c9]] w (oK w (encR ⟨3, a1, a2, l3, l4, ⟨a5, l6⟩, a7, a8, l9⟩)) := by
  obtain ⟨kk, hsk⟩ := (oC 3 a1 a2 l3 l4 a5 l6 a7 a8 l9 (oH h3 h4 h6 h9)).rounds
  rw [hs] at hsk
  have H3 := iD.mk h3; have H4 := iD.mk h4; have H6 := iD.mk h6; have H9 := iD.mk h9
  have hbw : Below w.heap.size w (w.alloc (.cells #[.int .u8 3, .int .u32 a1, .int .u32 a2, .slice A3 l3.length c3, .slice A4 l4.length c4, .int .u32 a5, .slice A6 l6.length c6, .int .i64 a7, .int .i64 a8, .slice A9 l9.length c9] 30)) := iF (Below.refl _ _) _
  have hsnd := stratumref07_Sound.calls kk 3 a1 a2 A3 c3 l3 A4 c4 l4 a5 A6 c6 l6 a7 a8 A9 c9 l9 true (w.alloc (.cells #[.int .u8 3, .int .u32 a1, .int .u32 a2, .slice A3 l3.length c3, .slice A4 l4.length c4, .int .u32 a5, .slice A6 l6.length c6, .int .i64 a7, .int .i64 a8, .slice A9 l9.length c9] 30)) (Kd.C_below h3 hbw) d3 (Kd.C_below h4 hbw) d4 (Kd.C_below h6 hbw) d6 (Kd.C_below h9 hbw) d9 hsk
  have HS := iD.mk hs
  unfold encR
  rw [if_pos HS.out]
  obtain ⟨X, hX⟩ : ∃ X : List UInt8, X = recE ⟨3, a1, a2, l3, l4, ⟨a5, l6⟩, a7, a8, l9⟩ := ⟨_, rfl⟩
  rw [← hX]
  have HXX := iD.mk hX
  obtain ⟨r, hr⟩ : ∃ r : List Int × Int, r = (if 60000 < X.length then ([], 3) else (nums X, 0)) := ⟨_, rfl⟩
  rw [← hr]
  have HRR := iD.mk hr
  clear hr hs hX hsk hbw h3 h4 h6 h9
  go_enter Tryd.func18, Tryd.ntmps18
  go_wp2_with fail
  go_at_call 20
  (with_reducible refine hsnd.mono ?_)
  clear hsnd
  rintro e w0 ⟨rfl, hb1⟩
  have hB0 : Below w.heap.size w w0 := iL (iF (Below.refl _ _) _) hb1
  have hX0 : w0.heap[w.heap.size]? = some (.cells #[.int .u8 3, .int .u32 a1, .int .u32 a2, .slice A3 l3.length c3, .slice A4 l4.length c4, .int .u32 a5, .slice A6 l6.length c6, .int .i64 a7, .int .i64 a8, .slice A9 l9.length c9] 30 (0, 0)) := iO hb1 (jA rfl)
  obtain ⟨z0, z1, z2, z3, z4, z5, z6, z7, z8, z9, y0, y1, y2, y3, y4, y5, y6, y7, y8, y9⟩ := ten hX0
  have HO := iD.mk (IR w0 w.heap.size 3 w.heap.size hB0.size (jQ hX0))
  have HB := iD.mk (iF hB0 (.cells #[.int .u8 3] 5))
  have HX := iD.mk (jP (o := .cells #[.int .u8 3] 5) hX0)
  have HW1 := iD.mk (show w0.alloc (.cells #[.int .u8 3] 5) = w0.alloc (.cells #[.int .u8 3] 5) from rfl)
  clear hb1 hB0 hX0
  go_upto_region 4 with fail
  clear z0 z1 z2 z3 z4 z5 z6 z7 z8 z9 y0 y1 y2 y3 y4 y5 y6 y7 y8 y9
  obtain ⟨w1, hw1⟩ : ∃ x, x = w0.alloc (.cells #[.int .u8 3] 5) := ⟨_, rfl⟩
  rw [← hw1] at HO HB HX ⊢
  clear HW1
  have HW1 := iD.mk hw1
  clear hw1
  obtain ⟨L1, hL⟩ : ∃ l, l = [(3 : Int)] := ⟨_, rfl⟩
  have hn1 : L1.length ≤ 1 := by rw [hL]; simp
  rw [← hL] at HO
  have HL1 := iD.mk hL
  clear hL
  obtain ⟨z0, z1, z2, z3, z4, z5, z6, z7, z8, z9, y0, y1, y2, y3, y4, y5, y6, y7, y8, y9⟩ := ten HX.out
  have hcall := kX (fun k => w.heap.size < k) (.slice (some ⟨w0.heap.size, 0, none⟩) 1 1) L1 (a1) (IntKind.u64.wrap a1) 4 4 w w1 (by first | rfl | (rw [wrap_u64]; omega)) rfl (by omega) (by omega) HB.out HO.out
  go_wp2_with fail
  go_at_call 57
  (with_reducible refine hcall.mono ?_)
  clear hcall z0 z1 z2 z3 z4 z5 z6 z7 z8 z9 y0 y1 y2 y3 y4 y5 y6 y7 y8 y9
  rintro e w2 ⟨v2, rfl, ho, hb, hk⟩
  have HO' := iD.mk (Kd.R_mono (ok' := fun k => w.heap.size < k) ho (fun k h => h.elim id (fun h => Nat.lt_of_lt_of_le (jQ HX.out) h)))
  have HX' := iD.mk (kP hk HX.out)
  have HB' := iD.mk hb
  clear ho hb hk HO HX HB
  obtain ⟨HO, HX, HB⟩ : _ ∧ _ ∧ _ := ⟨HO', HX', HB'⟩
  clear HO' HX' HB'
  obtain ⟨Ao, co, rfl⟩ := Kd.R_slice HO.out
  obtain ⟨L2, hL⟩ : ∃ l, l = L1 ++ nums (layB a1 4) := ⟨_, rfl⟩
  have hn2 : L2.length ≤ 5 := by rw [hL]; simp only [List.length_append, jH, iP]; omega
  rw [← hL] at HO ⊢
  have HL2 := iD.mk hL
  clear hL hn1
  obtain ⟨z0, z1, z2, z3, z4, z5, z6, z7, z8, z9, y0, y1, y2, y3, y4, y5, y6, y7, y8, y9⟩ := ten HX.out
  have HLX := iD.mk (show L2 = nums X from by rw [HL2.out, HL1.out, HXX.out, VR]; simp only [List.nil_append, nums_append]; rfl)
  have HP : iD (r = (nums X, 0)) := ⟨by rw [HRR.out, if_neg (by have h := congrArg List.length HLX.out; rw [jH] at h; omega)]⟩
  go_wp2_with fail
  go_ret2
  rw [HP.out]
  exact ⟨_, rfl, by rw [← HLX.out]; exact Kd.R_mono HO.out (fun _ _ => trivial), HB.out⟩
set_option maxHeartbeats 8000000 in
set_option maxRecDepth 20000 in
theorem PM (hs : jL ⟨4, a1, a2, l3, l4, ⟨a5, l6⟩, a7, a8, l9⟩ = true) : Calls Tryd.prog 18 #[.agg #[.int .u8 4, .int .u32 a1, .int .u32 a2, .slice A3 l3.length c3, .slice A4 l4.length c4, .int .u32 a5, .slice A6 l6.length c6, .int .i64 a7, .int .i64 a8, .slice A9 l9.length c9]] w (oK w (encR ⟨4, a1, a2, l3, l4, ⟨a5, l6⟩, a7, a8, l9⟩)) := by
  obtain ⟨kk, hsk⟩ := (oC 4 a1 a2 l3 l4 a5 l6 a7 a8 l9 (oH h3 h4 h6 h9)).rounds
  rw [hs] at hsk
  have H3 := iD.mk h3; have H4 := iD.mk h4; have H6 := iD.mk h6; have H9 := iD.mk h9
  have hbw : Below w.heap.size w (w.alloc (.cells #[.int .u8 4, .int .u32 a1, .int .u32 a2, .slice A3 l3.length c3, .slice A4 l4.length c4, .int .u32 a5, .slice A6 l6.length c6, .int .i64 a7, .int .i64 a8, .slice A9 l9.length c9] 30)) := iF (Below.refl _ _) _
  have hsnd := stratumref07_Sound.calls kk 4 a1 a2 A3 c3 l3 A4 c4 l4 a5 A6 c6 l6 a7 a8 A9 c9 l9 true (w.alloc (.cells #[.int .u8 4, .int .u32 a1, .int .u32 a2, .slice A3 l3.length c3, .slice A4 l4.length c4, .int .u32 a5, .slice A6 l6.length c6, .int .i64 a7, .int .i64 a8, .slice A9 l9.length c9] 30)) (Kd.C_below h3 hbw) d3 (Kd.C_below h4 hbw) d4 (Kd.C_below h6 hbw) d6 (Kd.C_below h9 hbw) d9 hsk
  have HS := iD.mk hs
  unfold encR
  rw [if_pos HS.out]
  obtain ⟨X, hX⟩ : ∃ X : List UInt8, X = recE ⟨4, a1, a2, l3, l4, ⟨a5, l6⟩, a7, a8, l9⟩ := ⟨_, rfl⟩
  rw [← hX]
  have HXX := iD.mk hX
  obtain ⟨r, hr⟩ : ∃ r : List Int × Int, r = (if 60000 < X.length then ([], 3) else (nums X, 0)) := ⟨_, rfl⟩
  rw [← hr]
  have HRR := iD.mk hr
  clear hr hs hX hsk hbw h3 h4 h6 h9
  go_enter Tryd.func18, Tryd.ntmps18
  go_wp2_with fail
  go_at_call 20
  (with_reducible refine hsnd.mono ?_)
  clear hsnd
  rintro e w0 ⟨rfl, hb1⟩
  have hB0 : Below w.heap.size w w0 := iL (iF (Below.refl _ _) _) hb1
  have hX0 : w0.heap[w.heap.size]? = some (.cells #[.int .u8 4, .int .u32 a1, .int .u32 a2, .slice A3 l3.length c3, .slice A4 l4.length c4, .int .u32 a5, .slice A6 l6.length c6, .int .i64 a7, .int .i64 a8, .slice A9 l9.length c9] 30 (0, 0)) := iO hb1 (jA rfl)
  obtain ⟨z0, z1, z2, z3, z4, z5, z6, z7, z8, z9, y0, y1, y2, y3, y4, y5, y6, y7, y8, y9⟩ := ten hX0
  have HO := iD.mk (IR w0 w.heap.size 4 w.heap.size hB0.size (jQ hX0))
  have HB := iD.mk (iF hB0 (.cells #[.int .u8 4] 5))
  have HX := iD.mk (jP (o := .cells #[.int .u8 4] 5) hX0)
  have HW1 := iD.mk (show w0.alloc (.cells #[.int .u8 4] 5) = w0.alloc (.cells #[.int .u8 4] 5) from rfl)
  clear hb1 hB0 hX0
  go_upto_region 4 with fail
  clear z0 z1 z2 z3 z4 z5 z6 z7 z8 z9 y0 y1 y2 y3 y4 y5 y6 y7 y8 y9
  obtain ⟨w1, hw1⟩ : ∃ x, x = w0.alloc (.cells #[.int .u8 4] 5) := ⟨_, rfl⟩
  rw [← hw1] at HO HB HX ⊢
  clear HW1
  have HW1 := iD.mk hw1
  clear hw1
  obtain ⟨L1, hL⟩ : ∃ l, l = [(4 : Int)] := ⟨_, rfl⟩
  have hn1 : L1.length ≤ 1 := by rw [hL]; simp
  rw [← hL] at HO
  have HL1 := iD.mk hL
  clear hL
  obtain ⟨z0, z1, z2, z3, z4, z5, z6, z7, z8, z9, y0, y1, y2, y3, y4, y5, y6, y7, y8, y9⟩ := ten HX.out
  have hcall := kX (fun k => w.heap.size < k) (.slice (some ⟨w0.heap.size, 0, none⟩) 1 1) L1 (a1) (IntKind.u64.wrap a1) 4 4 w w1 (by first | rfl | (rw [wrap_u64]; omega)) rfl (by omega) (by omega) HB.out HO.out
  go_wp2_with fail
  go_at_call 57
  (with_reducible refine hcall.mono ?_)
  clear hcall z0 z1 z2 z3 z4 z5 z6 z7 z8 z9 y0 y1 y2 y3 y4 y5 y6 y7 y8 y9
  rintro e w2 ⟨v2, rfl, ho, hb, hk⟩
  have HO' := iD.mk (Kd.R_mono (ok' := fun k => w.heap.size < k) ho (fun k h => h.elim id (fun h => Nat.lt_of_lt_of_le (jQ HX.out) h)))
  have HX' := iD.mk (kP hk HX.out)
  have HB' := iD.mk hb
  clear ho hb hk HO HX HB
  obtain ⟨HO, HX, HB⟩ : _ ∧ _ ∧ _ := ⟨HO', HX', HB'⟩
  clear HO' HX' HB'
  obtain ⟨Ao, co, rfl⟩ := Kd.R_slice HO.out
  obtain ⟨L2, hL⟩ : ∃ l, l = L1 ++ nums (layB a1 4) := ⟨_, rfl⟩
  have hn2 : L2.length ≤ 5 := by rw [hL]; simp only [List.length_append, jH, iP]; omega
  rw [← hL] at HO ⊢
  have HL2 := iD.mk hL
  clear hL hn1
  obtain ⟨z0, z1, z2, z3, z4, z5, z6, z7, z8, z9, y0, y1, y2, y3, y4, y5, y6, y7, y8, y9⟩ := ten HX.out
  have HLX := iD.mk (show L2 = nums X from by rw [HL2.out, HL1.out, HXX.out, VU]; simp only [List.nil_append, nums_append]; rfl)
  have HP : iD (r = (nums X, 0)) := ⟨by rw [HRR.out, if_neg (by have h := congrArg List.length HLX.out; rw [jH] at h; omega)]⟩
  go_wp2_with fail
  go_ret2
  rw [HP.out]
  exact ⟨_, rfl, by rw [← HLX.out]; exact Kd.R_mono HO.out (fun _ _ => trivial), HB.out⟩
set_option maxHeartbeats 8000000 in
set_option maxRecDepth 20000 in
theorem QD (hs : jL ⟨5, a1, a2, l3, l4, ⟨a5, l6⟩, a7, a8, l9⟩ = true) : Calls Tryd.prog 18 #[.agg #[.int .u8 5, .int .u32 a1, .int .u32 a2, .slice A3 l3.length c3, .slice A4 l4.length c4, .int .u32 a5, .slice A6 l6.length c6, .int .i64 a7, .int .i64 a8, .slice A9 l9.length c9]] w (oK w (encR ⟨5, a1, a2, l3, l4, ⟨a5, l6⟩, a7, a8, l9⟩)) := by
  obtain ⟨kk, hsk⟩ := (oC 5 a1 a2 l3 l4 a5 l6 a7 a8 l9 (oH h3 h4 h6 h9)).rounds
  rw [hs] at hsk
  have H3 := iD.mk h3; have H4 := iD.mk h4; have H6 := iD.mk h6; have H9 := iD.mk h9
  have hbw : Below w.heap.size w (w.alloc (.cells #[.int .u8 5, .int .u32 a1, .int .u32 a2, .slice A3 l3.length c3, .slice A4 l4.length c4, .int .u32 a5, .slice A6 l6.length c6, .int .i64 a7, .int .i64 a8, .slice A9 l9.length c9] 30)) := iF (Below.refl _ _) _
  have hsnd := stratumref07_Sound.calls kk 5 a1 a2 A3 c3 l3 A4 c4 l4 a5 A6 c6 l6 a7 a8 A9 c9 l9 true (w.alloc (.cells #[.int .u8 5, .int .u32 a1, .int .u32 a2, .slice A3 l3.length c3, .slice A4 l4.length c4, .int .u32 a5, .slice A6 l6.length c6, .int .i64 a7, .int .i64 a8, .slice A9 l9.length c9] 30)) (Kd.C_below h3 hbw) d3 (Kd.C_below h4 hbw) d4 (Kd.C_below h6 hbw) d6 (Kd.C_below h9 hbw) d9 hsk
  have HS := iD.mk hs
  unfold encR
  rw [if_pos HS.out]
  obtain ⟨X, hX⟩ : ∃ X : List UInt8, X = recE ⟨5, a1, a2, l3, l4, ⟨a5, l6⟩, a7, a8, l9⟩ := ⟨_, rfl⟩
  rw [← hX]
  have HXX := iD.mk hX
  obtain ⟨r, hr⟩ : ∃ r : List Int × Int, r = (if 60000 < X.length then ([], 3) else (nums X, 0)) := ⟨_, rfl⟩
  rw [← hr]
  have HRR := iD.mk hr
  clear hr hs hX hsk hbw h3 h4 h6 h9
  go_enter Tryd.func18, Tryd.ntmps18
  go_wp2_with fail
  go_at_call 20
  (with_reducible refine hsnd.mono ?_)
  clear hsnd
  rintro e w0 ⟨rfl, hb1⟩
  have hB0 : Below w.heap.size w w0 := iL (iF (Below.refl _ _) _) hb1
  have hX0 : w0.heap[w.heap.size]? = some (.cells #[.int .u8 5, .int .u32 a1, .int .u32 a2, .slice A3 l3.length c3, .slice A4 l4.length c4, .int .u32 a5, .slice A6 l6.length c6, .int .i64 a7, .int .i64 a8, .slice A9 l9.length c9] 30 (0, 0)) := iO hb1 (jA rfl)
  obtain ⟨z0, z1, z2, z3, z4, z5, z6, z7, z8, z9, y0, y1, y2, y3, y4, y5, y6, y7, y8, y9⟩ := ten hX0
  have HO := iD.mk (IR w0 w.heap.size 5 w.heap.size hB0.size (jQ hX0))
  have HB := iD.mk (iF hB0 (.cells #[.int .u8 5] 5))
  have HX := iD.mk (jP (o := .cells #[.int .u8 5] 5) hX0)
  have HW1 := iD.mk (show w0.alloc (.cells #[.int .u8 5] 5) = w0.alloc (.cells #[.int .u8 5] 5) from rfl)
  clear hb1 hB0 hX0
  go_upto_region 4 with fail
  clear z0 z1 z2 z3 z4 z5 z6 z7 z8 z9 y0 y1 y2 y3 y4 y5 y6 y7 y8 y9
  obtain ⟨w1, hw1⟩ : ∃ x, x = w0.alloc (.cells #[.int .u8 5] 5) := ⟨_, rfl⟩
  rw [← hw1] at HO HB HX ⊢
  clear HW1
  have HW1 := iD.mk hw1
  clear hw1
  obtain ⟨L1, hL⟩ : ∃ l, l = [(5 : Int)] := ⟨_, rfl⟩
  have hn1 : L1.length ≤ 1 := by rw [hL]; simp
  rw [← hL] at HO
  have HL1 := iD.mk hL
  clear hL
  obtain ⟨z0, z1, z2, z3, z4, z5, z6, z7, z8, z9, y0, y1, y2, y3, y4, y5, y6, y7, y8, y9⟩ := ten HX.out
  have hcall := kX (fun k => w.heap.size < k) (.slice (some ⟨w0.heap.size, 0, none⟩) 1 1) L1 (a1) (IntKind.u64.wrap a1) 4 4 w w1 (by first | rfl | (rw [wrap_u64]; omega)) rfl (by omega) (by omega) HB.out HO.out
  go_wp2_with fail
  go_at_call 57
  (with_reducible refine hcall.mono ?_)
  clear hcall z0 z1 z2 z3 z4 z5 z6 z7 z8 z9 y0 y1 y2 y3 y4 y5 y6 y7 y8 y9
  rintro e w2 ⟨v2, rfl, ho, hb, hk⟩
  have HO' := iD.mk (Kd.R_mono (ok' := fun k => w.heap.size < k) ho (fun k h => h.elim id (fun h => Nat.lt_of_lt_of_le (jQ HX.out) h)))
  have HX' := iD.mk (kP hk HX.out)
  have HB' := iD.mk hb
  clear ho hb hk HO HX HB
  obtain ⟨HO, HX, HB⟩ : _ ∧ _ ∧ _ := ⟨HO', HX', HB'⟩
  clear HO' HX' HB'
  obtain ⟨Ao, co, rfl⟩ := Kd.R_slice HO.out
  obtain ⟨L2, hL⟩ : ∃ l, l = L1 ++ nums (layB a1 4) := ⟨_, rfl⟩
  have hn2 : L2.length ≤ 5 := by rw [hL]; simp only [List.length_append, jH, iP]; omega
  rw [← hL] at HO ⊢
  have HL2 := iD.mk hL
  clear hL hn1
  obtain ⟨z0, z1, z2, z3, z4, z5, z6, z7, z8, z9, y0, y1, y2, y3, y4, y5, y6, y7, y8, y9⟩ := ten HX.out
  have HLX := iD.mk (show L2 = nums X from by rw [HL2.out, HL1.out, HXX.out, UV]; simp only [List.nil_append, nums_append]; rfl)
  have HP : iD (r = (nums X, 0)) := ⟨by rw [HRR.out, if_neg (by have h := congrArg List.length HLX.out; rw [jH] at h; omega)]⟩
  go_wp2_with fail
  go_ret2
  rw [HP.out]
  exact ⟨_, rfl, by rw [← HLX.out]; exact Kd.R_mono HO.out (fun _ _ => trivial), HB.out⟩
set_option maxHeartbeats 8000000 in
set_option maxRecDepth 20000 in
theorem QB (hs : jL ⟨7, a1, a2, l3, l4, ⟨a5, l6⟩, a7, a8, l9⟩ = true) : Calls Tryd.prog 18 #[.agg #[.int .u8 7, .int .u32 a1, .int .u32 a2, .slice A3 l3.length c3, .slice A4 l4.length c4, .int .u32 a5, .slice A6 l6.length c6, .int .i64 a7, .int .i64 a8, .slice A9 l9.length c9]] w (oK w (encR ⟨7, a1, a2, l3, l4, ⟨a5, l6⟩, a7, a8, l9⟩)) := by
  obtain ⟨kk, hsk⟩ := (oC 7 a1 a2 l3 l4 a5 l6 a7 a8 l9 (oH h3 h4 h6 h9)).rounds
  rw [hs] at hsk
  have H3 := iD.mk h3; have H4 := iD.mk h4; have H6 := iD.mk h6; have H9 := iD.mk h9
  have hbw : Below w.heap.size w (w.alloc (.cells #[.int .u8 7, .int .u32 a1, .int .u32 a2, .slice A3 l3.length c3, .slice A4 l4.length c4, .int .u32 a5, .slice A6 l6.length c6, .int .i64 a7, .int .i64 a8, .slice A9 l9.length c9] 30)) := iF (Below.refl _ _) _
  have hsnd := stratumref07_Sound.calls kk 7 a1 a2 A3 c3 l3 A4 c4 l4 a5 A6 c6 l6 a7 a8 A9 c9 l9 true (w.alloc (.cells #[.int .u8 7, .int .u32 a1, .int .u32 a2, .slice A3 l3.length c3, .slice A4 l4.length c4, .int .u32 a5, .slice A6 l6.length c6, .int .i64 a7, .int .i64 a8, .slice A9 l9.length c9] 30)) (Kd.C_below h3 hbw) d3 (Kd.C_below h4 hbw) d4 (Kd.C_below h6 hbw) d6 (Kd.C_below h9 hbw) d9 hsk
  have HS := iD.mk hs
  have q9 : (jT l9).length ≤ 25040004 := by
    have h := HS.out
    rw [P6] at h
    simp only [Bool.and_eq_true, decide_eq_true_eq] at h
    exact qQ _ h.1.1.1.1.1.1 (by have := h.1.1.1.1.1.2; omega)
  unfold encR
  rw [if_pos HS.out]
  obtain ⟨X, hX⟩ : ∃ X : List UInt8, X = recE ⟨7, a1, a2, l3, l4, ⟨a5, l6⟩, a7, a8, l9⟩ := ⟨_, rfl⟩
  rw [← hX]
  have HXX := iD.mk hX
  obtain ⟨r, hr⟩ : ∃ r : List Int × Int, r = (if 60000 < X.length then ([], 3) else (nums X, 0)) := ⟨_, rfl⟩
  rw [← hr]
  have HRR := iD.mk hr
  clear hr hs hX hsk hbw h3 h4 h6 h9
  go_enter Tryd.func18, Tryd.ntmps18
  go_wp2_with fail
  go_at_call 20
  (with_reducible refine hsnd.mono ?_)
  clear hsnd
  rintro e w0 ⟨rfl, hb1⟩
  have hB0 : Below w.heap.size w w0 := iL (iF (Below.refl _ _) _) hb1
  have hX0 : w0.heap[w.heap.size]? = some (.cells #[.int .u8 7, .int .u32 a1, .int .u32 a2, .slice A3 l3.length c3, .slice A4 l4.length c4, .int .u32 a5, .slice A6 l6.length c6, .int .i64 a7, .int .i64 a8, .slice A9 l9.length c9] 30 (0, 0)) := iO hb1 (jA rfl)
  obtain ⟨z0, z1, z2, z3, z4, z5, z6, z7, z8, z9, y0, y1, y2, y3, y4, y5, y6, y7, y8, y9⟩ := ten hX0
  have HO := iD.mk (IR w0 w.heap.size 7 w.heap.size hB0.size (jQ hX0))
  have HB := iD.mk (iF hB0 (.cells #[.int .u8 7] 5))
  have HX := iD.mk (jP (o := .cells #[.int .u8 7] 5) hX0)
  have HW1 := iD.mk (show w0.alloc (.cells #[.int .u8 7] 5) = w0.alloc (.cells #[.int .u8 7] 5) from rfl)
  clear hb1 hB0 hX0
  go_upto_region 4 with fail
  clear z0 z1 z2 z3 z4 z5 z6 z7 z8 z9 y0 y1 y2 y3 y4 y5 y6 y7 y8 y9
  obtain ⟨w1, hw1⟩ : ∃ x, x = w0.alloc (.cells #[.int .u8 7] 5) := ⟨_, rfl⟩
  rw [← hw1] at HO HB HX ⊢
  clear HW1
  have HW1 := iD.mk hw1
  clear hw1
  obtain ⟨L1, hL⟩ : ∃ l, l = [(7 : Int)] := ⟨_, rfl⟩
  have hn1 : L1.length ≤ 1 := by rw [hL]; simp
  rw [← hL] at HO
  have HL1 := iD.mk hL
  clear hL
  obtain ⟨z0, z1, z2, z3, z4, z5, z6, z7, z8, z9, y0, y1, y2, y3, y4, y5, y6, y7, y8, y9⟩ := ten HX.out
  have hcall := kX (fun k => w.heap.size < k) (.slice (some ⟨w0.heap.size, 0, none⟩) 1 1) L1 (a1) (IntKind.u64.wrap a1) 4 4 w w1 (by first | rfl | (rw [wrap_u64]; omega)) rfl (by omega) (by omega) HB.out HO.out
  go_wp2_with fail
  go_at_call 57
  (with_reducible refine hcall.mono ?_)
  clear hcall z0 z1 z2 z3 z4 z5 z6 z7 z8 z9 y0 y1 y2 y3 y4 y5 y6 y7 y8 y9
  rintro e w2 ⟨v2, rfl, ho, hb, hk⟩
  have HO' := iD.mk (Kd.R_mono (ok' := fun k => w.heap.size < k) ho (fun k h => h.elim id (fun h => Nat.lt_of_lt_of_le (jQ HX.out) h)))
  have HX' := iD.mk (kP hk HX.out)
  have HB' := iD.mk hb
  clear ho hb hk HO HX HB
  obtain ⟨HO, HX, HB⟩ : _ ∧ _ ∧ _ := ⟨HO', HX', HB'⟩
  clear HO' HX' HB'
  obtain ⟨Ao, co, rfl⟩ := Kd.R_slice HO.out
  obtain ⟨L2, hL⟩ : ∃ l, l = L1 ++ nums (layB a1 4) := ⟨_, rfl⟩
  have hn2 : L2.length ≤ 5 := by rw [hL]; simp only [List.length_append, jH, iP]; omega
  rw [← hL] at HO ⊢
  have HL2 := iD.mk hL
  clear hL hn1
  obtain ⟨z0, z1, z2, z3, z4, z5, z6, z7, z8, z9, y0, y1, y2, y3, y4, y5, y6, y7, y8, y9⟩ := ten HX.out
  have hcall := kX (fun k => w.heap.size < k) _ L2 (a7) (IntKind.u64.wrap a7) 4 4 w w2 (by first | rfl | (rw [wrap_u64]; omega)) rfl (by omega) (by omega) HB.out HO.out
  go_wp2_with fail
  go_at_call 57
  (with_reducible refine hcall.mono ?_)
  clear hcall z0 z1 z2 z3 z4 z5 z6 z7 z8 z9 y0 y1 y2 y3 y4 y5 y6 y7 y8 y9
  rintro e w3 ⟨v3, rfl, ho, hb, hk⟩
  have HO' := iD.mk (Kd.R_mono (ok' := fun k => w.heap.size < k) ho (fun k h => h.elim id (fun h => Nat.lt_of_lt_of_le (jQ HX.out) h)))
  have HX' := iD.mk (kP hk HX.out)
  have HB' := iD.mk hb
  clear ho hb hk HO HX HB
  obtain ⟨HO, HX, HB⟩ : _ ∧ _ ∧ _ := ⟨HO', HX', HB'⟩
  clear HO' HX' HB'
  obtain ⟨Ao, co, rfl⟩ := Kd.R_slice HO.out
  obtain ⟨L3, hL⟩ : ∃ l, l = L2 ++ nums (layB a7 4) := ⟨_, rfl⟩
  have hn3 : L3.length ≤ 9 := by rw [hL]; simp only [List.length_append, jH, iP]; omega
  rw [← hL] at HO ⊢
  have HL3 := iD.mk hL
  clear hL hn2
  obtain ⟨z0, z1, z2, z3, z4, z5, z6, z7, z8, z9, y0, y1, y2, y3, y4, y5, y6, y7, y8, y9⟩ := ten HX.out
  have hcall := kX (fun k => w.heap.size < k) _ L3 (a8) (IntKind.u64.wrap a8) 4 4 w w3 (by first | rfl | (rw [wrap_u64]; omega)) rfl (by omega) (by omega) HB.out HO.out
  go_wp2_with fail
  go_at_call 57
  (with_reducible refine hcall.mono ?_)
  clear hcall z0 z1 z2 z3 z4 z5 z6 z7 z8 z9 y0 y1 y2 y3 y4 y5 y6 y7 y8 y9
  rintro e w4 ⟨v4, rfl, ho, hb, hk⟩
  have HO' := iD.mk (Kd.R_mono (ok' := fun k => w.heap.size < k) ho (fun k h => h.elim id (fun h => Nat.lt_of_lt_of_le (jQ HX.out) h)))
  have HX' := iD.mk (kP hk HX.out)
  have HB' := iD.mk hb
  clear ho hb hk HO HX HB
  obtain ⟨HO, HX, HB⟩ : _ ∧ _ ∧ _ := ⟨HO', HX', HB'⟩
  clear HO' HX' HB'
  obtain ⟨Ao, co, rfl⟩ := Kd.R_slice HO.out
  obtain ⟨L4, hL⟩ : ∃ l, l = L3 ++ nums (layB a8 4) := ⟨_, rfl⟩
  have hn4 : L4.length ≤ 13 := by rw [hL]; simp only [List.length_append, jH, iP]; omega
  rw [← hL] at HO ⊢
  have HL4 := iD.mk hL
  clear hL hn3
  obtain ⟨z0, z1, z2, z3, z4, z5, z6, z7, z8, z9, y0, y1, y2, y3, y4, y5, y6, y7, y8, y9⟩ := ten HX.out
  have hcall := vS (fun k => w.heap.size < k) _ L4 A9 c9 l9 w w4 (by omega) HB.out HO.out (fun k h => Nat.le_of_lt h) H9.out d9
  go_wp2_with fail
  go_at_call 60
  (with_reducible refine hcall.mono ?_)
  clear hcall z0 z1 z2 z3 z4 z5 z6 z7 z8 z9 y0 y1 y2 y3 y4 y5 y6 y7 y8 y9
  rintro e w5 ⟨v5, rfl, ho, hb, hk⟩
  have HO' := iD.mk (Kd.R_mono (ok' := fun k => w.heap.size < k) ho (fun k h => h.elim id (fun h => Nat.lt_of_lt_of_le (jQ HX.out) h)))
  have HX' := iD.mk (kP hk HX.out)
  have HB' := iD.mk hb
  clear ho hb hk HO HX HB
  obtain ⟨HO, HX, HB⟩ : _ ∧ _ ∧ _ := ⟨HO', HX', HB'⟩
  clear HO' HX' HB'
  obtain ⟨Ao, co, rfl⟩ := Kd.R_slice HO.out
  obtain ⟨L5, hL⟩ : ∃ l, l = L4 ++ nums (jT l9) := ⟨_, rfl⟩
  have hn5 : L5.length ≤ 25040017 := by rw [hL]; simp only [List.length_append, jH, iP]; omega
  rw [← hL] at HO ⊢
  have HL5 := iD.mk hL
  clear hL hn4
  obtain ⟨z0, z1, z2, z3, z4, z5, z6, z7, z8, z9, y0, y1, y2, y3, y4, y5, y6, y7, y8, y9⟩ := ten HX.out
  have HLX := iD.mk (show L5 = nums X from by rw [HL5.out, HL4.out, HL3.out, HL2.out, HL1.out, HXX.out, VV]; simp only [List.nil_append, nums_append]; rfl)
  by_cases hq : (60000 : Int) < (L5.length : Int)
  · have HP : iD (r = ([], 3)) := ⟨by rw [HRR.out, if_pos (by rw [HLX.out, jH] at hq; omega)]⟩
    go_wp2_with fail
    go_ret2
    rw [HP.out]
    exact ⟨_, rfl, Kd.R_nil _ _ _ _ _, HB.out⟩
  · have HP : iD (r = (nums X, 0)) := ⟨by rw [HRR.out, if_neg (by rw [HLX.out, jH] at hq; omega)]⟩
    go_wp2_with fail
    go_ret2
    rw [HP.out]
    exact ⟨_, rfl, by rw [← HLX.out]; exact Kd.R_mono HO.out (fun _ _ => trivial), HB.out⟩
set_option maxHeartbeats 8000000 in
set_option maxRecDepth 20000 in
theorem QP (hs : jL ⟨6, a1, a2, l3, l4, ⟨a5, l6⟩, a7, a8, l9⟩ = true) : Calls Tryd.prog 18 #[.agg #[.int .u8 6, .int .u32 a1, .int .u32 a2, .slice A3 l3.length c3, .slice A4 l4.length c4, .int .u32 a5, .slice A6 l6.length c6, .int .i64 a7, .int .i64 a8, .slice A9 l9.length c9]] w (oK w (encR ⟨6, a1, a2, l3, l4, ⟨a5, l6⟩, a7, a8, l9⟩)) := by
  obtain ⟨kk, hsk⟩ := (oC 6 a1 a2 l3 l4 a5 l6 a7 a8 l9 (oH h3 h4 h6 h9)).rounds
  rw [hs] at hsk
  have H3 := iD.mk h3; have H4 := iD.mk h4; have H6 := iD.mk h6; have H9 := iD.mk h9
  have hbw : Below w.heap.size w (w.alloc (.cells #[.int .u8 6, .int .u32 a1, .int .u32 a2, .slice A3 l3.length c3, .slice A4 l4.length c4, .int .u32 a5, .slice A6 l6.length c6, .int .i64 a7, .int .i64 a8, .slice A9 l9.length c9] 30)) := iF (Below.refl _ _) _
  have hsnd := stratumref07_Sound.calls kk 6 a1 a2 A3 c3 l3 A4 c4 l4 a5 A6 c6 l6 a7 a8 A9 c9 l9 true (w.alloc (.cells #[.int .u8 6, .int .u32 a1, .int .u32 a2, .slice A3 l3.length c3, .slice A4 l4.length c4, .int .u32 a5, .slice A6 l6.length c6, .int .i64 a7, .int .i64 a8, .slice A9 l9.length c9] 30)) (Kd.C_below h3 hbw) d3 (Kd.C_below h4 hbw) d4 (Kd.C_below h6 hbw) d6 (Kd.C_below h9 hbw) d9 hsk
  have HS := iD.mk hs
  have q6 : l6.length ≤ 40 := by
    have h := HS.out
    rw [PI, Bool.and_eq_true, Bool.and_eq_true, Bool.and_eq_true] at h
    have := of_decide_eq_true h.1.1.2
    omega
  unfold encR
  rw [if_pos HS.out]
  obtain ⟨X, hX⟩ : ∃ X : List UInt8, X = recE ⟨6, a1, a2, l3, l4, ⟨a5, l6⟩, a7, a8, l9⟩ := ⟨_, rfl⟩
  rw [← hX]
  have HXX := iD.mk hX
  obtain ⟨r, hr⟩ : ∃ r : List Int × Int, r = (if 60000 < X.length then ([], 3) else (nums X, 0)) := ⟨_, rfl⟩
  rw [← hr]
  have HRR := iD.mk hr
  clear hr hs hX hsk hbw h3 h4 h6 h9
  go_enter Tryd.func18, Tryd.ntmps18
  go_wp2_with fail
  go_at_call 20
  (with_reducible refine hsnd.mono ?_)
  clear hsnd
  rintro e w0 ⟨rfl, hb1⟩
  have hB0 : Below w.heap.size w w0 := iL (iF (Below.refl _ _) _) hb1
  have hX0 : w0.heap[w.heap.size]? = some (.cells #[.int .u8 6, .int .u32 a1, .int .u32 a2, .slice A3 l3.length c3, .slice A4 l4.length c4, .int .u32 a5, .slice A6 l6.length c6, .int .i64 a7, .int .i64 a8, .slice A9 l9.length c9] 30 (0, 0)) := iO hb1 (jA rfl)
  obtain ⟨z0, z1, z2, z3, z4, z5, z6, z7, z8, z9, y0, y1, y2, y3, y4, y5, y6, y7, y8, y9⟩ := ten hX0
  have HO := iD.mk (IR w0 w.heap.size 6 w.heap.size hB0.size (jQ hX0))
  have HB := iD.mk (iF hB0 (.cells #[.int .u8 6] 5))
  have HX := iD.mk (jP (o := .cells #[.int .u8 6] 5) hX0)
  have HW1 := iD.mk (show w0.alloc (.cells #[.int .u8 6] 5) = w0.alloc (.cells #[.int .u8 6] 5) from rfl)
  clear hb1 hB0 hX0
  go_upto_region 4 with fail
  clear z0 z1 z2 z3 z4 z5 z6 z7 z8 z9 y0 y1 y2 y3 y4 y5 y6 y7 y8 y9
  obtain ⟨w1, hw1⟩ : ∃ x, x = w0.alloc (.cells #[.int .u8 6] 5) := ⟨_, rfl⟩
  rw [← hw1] at HO HB HX ⊢
  clear HW1
  have HW1 := iD.mk hw1
  clear hw1
  obtain ⟨L1, hL⟩ : ∃ l, l = [(6 : Int)] := ⟨_, rfl⟩
  have hn1 : L1.length ≤ 1 := by rw [hL]; simp
  rw [← hL] at HO
  have HL1 := iD.mk hL
  clear hL
  obtain ⟨z0, z1, z2, z3, z4, z5, z6, z7, z8, z9, y0, y1, y2, y3, y4, y5, y6, y7, y8, y9⟩ := ten HX.out
  have hcall := kX (fun k => w.heap.size < k) (.slice (some ⟨w0.heap.size, 0, none⟩) 1 1) L1 (a1) (IntKind.u64.wrap a1) 4 4 w w1 (by first | rfl | (rw [wrap_u64]; omega)) rfl (by omega) (by omega) HB.out HO.out
  go_wp2_with fail
  go_at_call 57
  (with_reducible refine hcall.mono ?_)
  clear hcall z0 z1 z2 z3 z4 z5 z6 z7 z8 z9 y0 y1 y2 y3 y4 y5 y6 y7 y8 y9
  rintro e w2 ⟨v2, rfl, ho, hb, hk⟩
  have HO' := iD.mk (Kd.R_mono (ok' := fun k => w.heap.size < k) ho (fun k h => h.elim id (fun h => Nat.lt_of_lt_of_le (jQ HX.out) h)))
  have HX' := iD.mk (kP hk HX.out)
  have HB' := iD.mk hb
  clear ho hb hk HO HX HB
  obtain ⟨HO, HX, HB⟩ : _ ∧ _ ∧ _ := ⟨HO', HX', HB'⟩
  clear HO' HX' HB'
  obtain ⟨Ao, co, rfl⟩ := Kd.R_slice HO.out
  obtain ⟨L2, hL⟩ : ∃ l, l = L1 ++ nums (layB a1 4) := ⟨_, rfl⟩
  have hn2 : L2.length ≤ 5 := by rw [hL]; simp only [List.length_append, jH, iP]; omega
  rw [← hL] at HO ⊢
  have HL2 := iD.mk hL
  clear hL hn1
  obtain ⟨z0, z1, z2, z3, z4, z5, z6, z7, z8, z9, y0, y1, y2, y3, y4, y5, y6, y7, y8, y9⟩ := ten HX.out
  have hcall := kX (fun k => w.heap.size < k) _ L2 (a5) (IntKind.u64.wrap a5) 4 4 w w2 (by first | rfl | (rw [wrap_u64]; omega)) rfl (by omega) (by omega) HB.out HO.out
  go_wp2_with fail
  go_at_call 57
  (with_reducible refine hcall.mono ?_)
  clear hcall z0 z1 z2 z3 z4 z5 z6 z7 z8 z9 y0 y1 y2 y3 y4 y5 y6 y7 y8 y9
  rintro e w3 ⟨v3, rfl, ho, hb, hk⟩
  have HO' := iD.mk (Kd.R_mono (ok' := fun k => w.heap.size < k) ho (fun k h => h.elim id (fun h => Nat.lt_of_lt_of_le (jQ HX.out) h)))
  have HX' := iD.mk (kP hk HX.out)
  have HB' := iD.mk hb
  clear ho hb hk HO HX HB
  obtain ⟨HO, HX, HB⟩ : _ ∧ _ ∧ _ := ⟨HO', HX', HB'⟩
  clear HO' HX' HB'
  obtain ⟨Ao, co, rfl⟩ := Kd.R_slice HO.out
  obtain ⟨L3, hL⟩ : ∃ l, l = L2 ++ nums (layB a5 4) := ⟨_, rfl⟩
  have hn3 : L3.length ≤ 9 := by rw [hL]; simp only [List.length_append, jH, iP]; omega
  rw [← hL] at HO ⊢
  have HL3 := iD.mk hL
  clear hL hn2
  obtain ⟨z0, z1, z2, z3, z4, z5, z6, z7, z8, z9, y0, y1, y2, y3, y4, y5, y6, y7, y8, y9⟩ := ten HX.out
  have hcall := kX (fun k => w.heap.size < k) _ L3 ((l6.length : Int)) ((l6.length : Int)) 1 1 w w3 (by first | rfl | (rw [wrap_u64]; omega)) rfl (by omega) (by omega) HB.out HO.out
  go_wp2_with fail
  go_at_call 57
  (with_reducible refine hcall.mono ?_)
  clear hcall z0 z1 z2 z3 z4 z5 z6 z7 z8 z9 y0 y1 y2 y3 y4 y5 y6 y7 y8 y9
  rintro e w4 ⟨v4, rfl, ho, hb, hk⟩
  have HO' := iD.mk (Kd.R_mono (ok' := fun k => w.heap.size < k) ho (fun k h => h.elim id (fun h => Nat.lt_of_lt_of_le (jQ HX.out) h)))
  have HX' := iD.mk (kP hk HX.out)
  have HB' := iD.mk hb
  clear ho hb hk HO HX HB
  obtain ⟨HO, HX, HB⟩ : _ ∧ _ ∧ _ := ⟨HO', HX', HB'⟩
  clear HO' HX' HB'
  obtain ⟨Ao, co, rfl⟩ := Kd.R_slice HO.out
  obtain ⟨L4, hL⟩ : ∃ l, l = L3 ++ nums (layB (l6.length : Int) 1) := ⟨_, rfl⟩
  have hn4 : L4.length ≤ 10 := by rw [hL]; simp only [List.length_append, jH, iP]; omega
  rw [← hL] at HO ⊢
  have HL4 := iD.mk hL
  clear hL hn3
  obtain ⟨z0, z1, z2, z3, z4, z5, z6, z7, z8, z9, y0, y1, y2, y3, y4, y5, y6, y7, y8, y9⟩ := ten HX.out
  go_wp2_with fail
  clear z0 z1 z2 z3 z4 z5 z6 z7 z8 z9 y0 y1 y2 y3 y4 y5 y6 y7 y8 y9
  go_loopg [4, 5] l6.length (fun gg s4 s5 wr => ∃ k : Nat, k ≤ l6.length ∧ l6.length - k ≤ gg ∧ s5 = .int .i64 k ∧ iD (Kd.R (Kd.int .u8) 5 wr w.heap.size (fun k => w.heap.size < k) s4 (L4 ++ nums ((l6.take k).flatMap mG))) ∧ iD (Below w.heap.size w wr) ∧ iD (wr.heap[w.heap.size]? = some (.cells #[.int .u8 6, .int .u32 a1, .int .u32 a2, .slice A3 l3.length c3, .slice A4 l4.length c4, .int .u32 a5, .slice A6 l6.length c6, .int .i64 a7, .int .i64 a8, .slice A9 l9.length c9] 30 (0, 0))))
  case atStart => exact ⟨0, Nat.zero_le _, by omega, rfl, ⟨by simpa [nums] using HO.out⟩, HB, HX⟩
  case round =>
    clear HO HB HX
    obtain ⟨k, hk, hg, rfl, HO, HB, HX⟩ := hrel
    obtain ⟨Ao, co, rfl⟩ := Kd.R_slice HO.out
    by_cases hlt : k < l6.length
    · have HT := iD.mk (kH mG z98 l6 k hlt)
      obtain ⟨w5, rfl⟩ : ∃ x : World, x = wr := ⟨_, rfl⟩
      obtain ⟨L5, hL⟩ : ∃ L, L = L4 ++ nums ((l6.take k).flatMap mG) := ⟨_, rfl⟩
      have hn5 : L5.length ≤ 210 := by rw [hL]; have h1 := nS mG l6 k; rw [uH l6] at h1; simp only [List.length_append, jH]; omega
      rw [← hL] at HO ⊢
      have HL5 := iD.mk hL
      clear hL
      obtain ⟨ad, eA, gx0, gx1⟩ := lX H6.out k (by omega) (by omega)
      cases eA
      simp only [Int.toNat_natCast] at gx0 gx1
      have hx0 := kD HB.out gx0
      have hx1 := kD HB.out gx1
      have HG := iD.mk (And.intro gx0 gx1)
      clear gx0 gx1
      have HSP := iD.mk (show jU l6 k = l6.getD k z98 from by unfold jU; rw [Int.toNat_natCast])
      generalize jU l6 k = sp at HSP hx0 hx1 HG ⊢
      obtain ⟨z0, z1, z2, z3, z4, z5, z6, z7, z8, z9, y0, y1, y2, y3, y4, y5, y6, y7, y8, y9⟩ := ten HX.out
      have hcall := kX (fun k => w.heap.size < k) _ L5 (sp.f0) (IntKind.u64.wrap sp.f0) 4 4 w w5 (by first | rfl | (rw [wrap_u64]; omega)) rfl (by omega) (by omega) HB.out HO.out
      go_wp2_with fail
      go_at_call 57
      (with_reducible refine hcall.mono ?_)
      clear hcall z0 z1 z2 z3 z4 z5 z6 z7 z8 z9 y0 y1 y2 y3 y4 y5 y6 y7 y8 y9
      rintro e w6 ⟨v6, rfl, ho, hb, hk⟩
      have HO' := iD.mk (Kd.R_mono (ok' := fun k => w.heap.size < k) ho (fun k h => h.elim id (fun h => Nat.lt_of_lt_of_le (jQ HX.out) h)))
      have HX' := iD.mk (kP hk HX.out)
      have HB' := iD.mk hb
      clear ho hb hk HO HX HB
      obtain ⟨HO, HX, HB⟩ : _ ∧ _ ∧ _ := ⟨HO', HX', HB'⟩
      clear HO' HX' HB'
      obtain ⟨Ao, co, rfl⟩ := Kd.R_slice HO.out
      obtain ⟨L6, hL⟩ : ∃ l, l = L5 ++ nums (layB sp.f0 4) := ⟨_, rfl⟩
      have hn6 : L6.length ≤ 214 := by rw [hL]; simp only [List.length_append, jH, iP]; omega
      rw [← hL] at HO ⊢
      have HL6 := iD.mk hL
      clear hL hn5
      clear hx0 hx1
      have hx0 := kD HB.out HG.out.1
      have hx1 := kD HB.out HG.out.2
      obtain ⟨z0, z1, z2, z3, z4, z5, z6, z7, z8, z9, y0, y1, y2, y3, y4, y5, y6, y7, y8, y9⟩ := ten HX.out
      have hcall := kX (fun k => w.heap.size < k) _ L6 (sp.f1) (IntKind.u64.wrap sp.f1) 1 1 w w6 (by first | rfl | (rw [wrap_u64]; omega)) rfl (by omega) (by omega) HB.out HO.out
      go_wp2_with fail
      go_at_call 57
      (with_reducible refine hcall.mono ?_)
      clear hcall z0 z1 z2 z3 z4 z5 z6 z7 z8 z9 y0 y1 y2 y3 y4 y5 y6 y7 y8 y9
      rintro e w7 ⟨v7, rfl, ho, hb, hk⟩
      have HO' := iD.mk (Kd.R_mono (ok' := fun k => w.heap.size < k) ho (fun k h => h.elim id (fun h => Nat.lt_of_lt_of_le (jQ HX.out) h)))
      have HX' := iD.mk (kP hk HX.out)
      have HB' := iD.mk hb
      clear ho hb hk HO HX HB
      obtain ⟨HO, HX, HB⟩ : _ ∧ _ ∧ _ := ⟨HO', HX', HB'⟩
      clear HO' HX' HB'
      obtain ⟨Ao, co, rfl⟩ := Kd.R_slice HO.out
      obtain ⟨L7, hL⟩ : ∃ l, l = L6 ++ nums (layB sp.f1 1) := ⟨_, rfl⟩
      have hn7 : L7.length ≤ 215 := by rw [hL]; simp only [List.length_append, jH, iP]; omega
      rw [← hL] at HO ⊢
      have HL7 := iD.mk hL
      clear hL hn6
      clear hx0 hx1
      have HE := iD.mk (show L7 = L4 ++ nums ((l6.take (k + 1)).flatMap mG) from by rw [HT.out, ← HSP.out, HL7.out, HL6.out, HL5.out]; unfold mG; simp only [nums_append, List.append_assoc])
      go_wp2_with fail
      go_roundg (l6.length - (k + 1))
      case measure => omega
      case rel => exact ⟨k + 1, by omega, by omega, by go_num, ⟨by rw [← HE.out]; exact HO.out⟩, HB, HX⟩
    · have : k = l6.length := by omega
      subst this
      obtain ⟨w5, rfl⟩ : ∃ x : World, x = wr := ⟨_, rfl⟩
      obtain ⟨L5, hL⟩ : ∃ L, L = L4 ++ nums (l6.flatMap mG) := ⟨_, rfl⟩
      rw [List.take_length] at HO ⊢
      rw [← hL] at HO ⊢
      have HL5 := iD.mk hL
      clear hL
      obtain ⟨z0, z1, z2, z3, z4, z5, z6, z7, z8, z9, y0, y1, y2, y3, y4, y5, y6, y7, y8, y9⟩ := ten HX.out
      have HLX := iD.mk (show L5 = nums X from by rw [HL5.out, HL4.out, HL3.out, HL2.out, HL1.out, HXX.out, V7]; simp only [List.nil_append, nums_append]; rfl)
      by_cases hq : (60000 : Int) < (L5.length : Int)
      · have HP : iD (r = ([], 3)) := ⟨by rw [HRR.out, if_pos (by rw [HLX.out, jH] at hq; omega)]⟩
        go_wp2_with fail
        go_ret2
        rw [HP.out]
        exact ⟨_, rfl, Kd.R_nil _ _ _ _ _, HB.out⟩
      · have HP : iD (r = (nums X, 0)) := ⟨by rw [HRR.out, if_neg (by rw [HLX.out, jH] at hq; omega)]⟩
        go_wp2_with fail
        go_ret2
        rw [HP.out]
        exact ⟨_, rfl, by rw [← HLX.out]; exact Kd.R_mono HO.out (fun _ _ => trivial), HB.out⟩
end
end Go.Proofs.YtgfkgppomaapiaaDoor.K
end

section
namespace Go.Proofs.YtgfkgppomaapiaaDoor.K
open RowKit YtgfkgppomaapiaaDoorW.PrintWords YtgfkgppomaapiaaDoorW.PrintLast YtgfkgppomaapiaaDoorW.PrintMore My
def zA : List PanicEntry := [{ v := .iface 148 (.agg #[]), recovered := false }]
def Rd (w0 w : World) (g : Nat) (l : List UInt8) : Prop := ∃ A c, w.heap[g]? = some (.cells #[.slice A l.length c] 151 (0, 0)) ∧ l.length ≤ c ∧ kb.C w0 A l.length l
theorem Rd.grown {w0 w w' : World} {g : Nat} {l : List UInt8} (h : Rd w0 w g l) {row : Option Nat} (hg : w.grownBy w' row) (hne : some g ≠ row) : Rd w0 w' g l := by
  obtain ⟨A, c, hb, hc, hC⟩ := h
  exact ⟨A, c, (hg.block g (jQ hb) hne).trans hb, hc, hC⟩
theorem Rd.lt {w0 w : World} {g : Nat} {l : List UInt8} (h : Rd w0 w g l) : g < w.heap.size := by
  obtain ⟨A, c, hb, _⟩ := h
  exact jQ hb
theorem NI (w : World) (row : Option Nat) : w.grownBy w row := ⟨rfl, rfl, rfl, Nat.le_refl _, fun _ _ _ => rfl⟩
theorem jB {a w w' : World} {row : Option Nat} (h : a.grownBy w row) (k : w.grownBy w' row) : a.grownBy w' row :=
  ⟨k.os.trans h.os, k.tape.trans h.tape, k.output.trans h.output, Nat.le_trans h.size k.size, fun i hi hne => (k.block i (Nat.lt_of_lt_of_le hi h.size) hne).trans (h.block i hi hne)⟩
theorem JD (w : World) (g i : Nat) (v : Value) : w.grownBy (w.setCell ⟨g, i, none⟩ v) (some g) :=
  ⟨rfl, rfl, rfl, by simp [World.setCell], fun k _ hne => Below.heap_setCell _ _ _ _ (fun e => hne (by rw [e]))⟩
theorem grown_below {w w' : World} {row : Option Nat} (h : Below w.heap.size w w') : w.grownBy w' row := ⟨h.os, h.tape, h.output, h.size, fun k hk _ => h.block k hk⟩
theorem below_grown {B : Nat} {w0 w w' : World} {g : Nat} (h : Below B w0 w) (hg : w.grownBy w' (some g)) (hB : B ≤ g) (h0 : B ≤ w0.heap.size) : Below B w0 w' :=
  ⟨hg.os.trans h.os, hg.tape.trans h.tape, hg.output.trans h.output, Nat.le_trans h.size hg.size, fun k hk => (hg.block k (by have := h.size; omega) (fun e => by injection e with e; omega)).trans (h.block k hk)⟩
theorem yJ (l : List UInt8) (k : Nat) (h : k < l.length) : numB (l.take (k + 1)) = numB (l.take k) * 256 + (l.getD k 0).toNat := by
  rw [nD 0 l k h, RF]
theorem JL (l : List UInt8) (k : Nat) (h : k ≤ 7) : numB (l.take k) < 72057594037927936 := by
  have h1 := xB (l.take k)
  have h2 : (l.take k).length ≤ 7 := by rw [List.length_take]; omega
  have h3 : 256 ^ (l.take k).length ≤ 256 ^ 7 := Nat.pow_le_pow_right (by decide) h2
  have h4 : 256 ^ 7 = 72057594037927936 := by decide
  omega
theorem VQ (n : Nat) (c : UInt8) (h : n < 72057594037927936) : bits .or .u64 ((n : Int) * 256) (c.toNat : Int) = ((n * 256 + c.toNat : Nat) : Int) := by
  have hc := c.toNat_lt
  rw [show ((n : Int) * 256) = ((n * 256 : Nat) : Int) by omega, u64_or_nat _ _ (by omega) (by omega)]
  congr 1
  have := Nat.shiftLeft_add_eq_or_of_lt (i := 8) (show c.toNat < 2 ^ 8 by omega) n
  rw [Nat.shiftLeft_eq] at this
  exact this.symm
set_option maxHeartbeats 2000000 in
theorem mQ (s : Nat) (S : Int) (hS : S = s) (hs8 : s ≤ 8) (g : Nat) (l : List UInt8) (w0 w : World) (h : Rd w0 w g l) (hb : Below w0.heap.size w0 w) (hl : s ≤ l.length) :
    Calls Tryd.prog 119 #[.pointer (some ⟨g, 0, none⟩), .int .i64 S] w fun e w' => e = .returned (.int .u64 (numB (l.take s) : Int)) ∧ Rd w0 w' g (l.drop s) ∧ w.grownBy w' (some g) := by
  subst hS
  obtain ⟨A, c, hblk, hc, hC⟩ := h
  have HBL := iD.mk hblk
  have HB := iD.mk hb
  have hm := lH hC
  have HC := iD.mk hC
  have z0 : w.cell? ⟨g, 0, none⟩ = some (.slice A l.length c) := (iE hblk 0).trans rfl
  have f0 : w.frozen? ⟨g, 0, none⟩ = false := iC hblk 0
  have hcut := WP A l.length c s (s : Int) rfl hl hc
  obtain ⟨A2, hcut2, hC2⟩ := WY hC hc s (s : Int) rfl hl
  have HC2 := iD.mk hC2
  have hnot : ¬ (l.length : Int) < (s : Int) := by omega
  clear hblk hb hC hC2
  go_enter Tryd.func119, Tryd.ntmps119
  go_wp2
  go_loop [5, 24] (fun n i => ∃ k : Nat, k ≤ s ∧ i = .int .i64 k ∧ n = .int .u64 (numB (l.take k) : Int)) (fun _ i => s - (intOf i).toNat)
  case atStart => exact ⟨0, Nat.zero_le _, rfl, rfl⟩
  case round =>
    obtain ⟨k, hk, rfl, rfl⟩ := hrel
    by_cases hlt : k < s
    · obtain ⟨ad, rfl, hx⟩ := C_at (Kd.C_below HC.out HB.out) k (by omega)
      have hsn := iD.mk (yJ l k (by omega))
      have hn := JL l k (by omega)
      generalize l.getD k 0 = cb at hx hsn
      have HOR := iD.mk (VQ (numB (l.take k)) cb hn)
      obtain ⟨n, hnn⟩ : ∃ n, n = numB (l.take k) := ⟨_, rfl⟩
      rw [← hnn] at hn HOR hsn ⊢
      clear hnn
      have hnI : (n : Int) < 72057594037927936 := by omega
      clear hn
      have hcb := cb.toNat_lt
      go_wp2
      go_round
      case rel => exact ⟨k + 1, by omega, by go_num, by rw [hsn.out, ← HOR.out]⟩
      case measure => simp [intOf]; omega
    · obtain rfl : k = s := by omega
      go_wp2
      go_ret
      refine ⟨rfl, ⟨A2, c - k, ?_, by rw [List.length_drop]; omega, ?_⟩, JD _ _ _ _⟩
      · rw [List.length_drop]
        exact (Lib.heap_setCell_same HBL.out _).trans rfl
      · rw [List.length_drop]
        exact HC2.out
set_option maxHeartbeats 1000000 in
theorem jZ (s : Nat) (S : Int) (hS : S = s) (g : Nat) (l : List UInt8) (w0 w : World) (h : Rd w0 w g l) (hl : l.length < s) :
    Calls Tryd.prog 119 #[.pointer (some ⟨g, 0, none⟩), .int .i64 S] w fun e w' => e = .panicked zA ∧ w.grownBy w' (some g) := by
  subst hS
  obtain ⟨A, c, hblk, hc, hC⟩ := h
  have hm := lH hC
  have z0 : w.cell? ⟨g, 0, none⟩ = some (.slice A l.length c) := (iE hblk 0).trans rfl
  have f0 : w.frozen? ⟨g, 0, none⟩ = false := iC hblk 0
  have hyes : (l.length : Int) < (s : Int) := by omega
  clear hblk hC
  go_enter Tryd.func119, Tryd.ntmps119
  go_wp2
  exact ⟨rfl, rfl, NI _ _⟩
theorem mX {s : Nat} {l l' : List UInt8} {n : Nat} (h : number s l = some (n, l')) : s ≤ l.length ∧ n = numB (l.take s) ∧ l' = l.drop s := by
  unfold number at h
  split at h
  · cases h
  · injection h with h
    injection h with h1 h2
    exact ⟨by omega, h1.symm, h2.symm⟩
theorem qU {s : Nat} {l : List UInt8} (h : number s l = none) : l.length < s := by
  unfold number at h
  split at h
  · assumption
  · cases h
theorem MX (a b : Nat) (h : a ≤ 9223372036854775807) : wrap64 ((a : Int) / (b : Int)) = (a : Int) / (b : Int) ∧ IntKind.u64.wrap ((a : Int) / (b : Int)) = (a : Int) / (b : Int) := by
  rw [← Int.natCast_ediv]
  have h1 : a / b ≤ a := Nat.div_le_self _ _
  generalize a / b = q at h1 ⊢
  constructor
  · unfold wrap64; omega
  · rw [IntKind.wrap_u64]; omega
set_option maxHeartbeats 2000000 in
theorem xX (s least : Nat) (S T : Int) (hS : S = s) (hT : T = least) (hs8 : s ≤ 8) (h1 : 1 ≤ least) (g : Nat) (l l' : List UInt8) (n : Nat) (w0 w : World) (h : Rd w0 w g l) (hb : Below w0.heap.size w0 w) (hg : w0.heap.size ≤ g) (hl : many s least l = some (n, l')) :
    Calls Tryd.prog 130 #[.pointer (some ⟨g, 0, none⟩), .int .i64 S, .int .i64 T] w fun e w' => e = .returned (.int .i64 (n : Int)) ∧ Rd w0 w' g l' ∧ w.grownBy w' (some g) ∧ n * least ≤ l'.length := by
  subst hT
  unfold many at hl
  obtain ⟨⟨m, r⟩, hn, hl⟩ := Option.bind_eq_some_iff.1 hl
  simp only at hl
  split at hl
  · cases hl
  injection hl with hl
  injection hl with e1 e2
  subst e1; subst e2
  rename_i hle
  obtain ⟨hsl, hm, hr⟩ := mX hn
  have hle' : m * least ≤ r.length := by
    have : m ≤ r.length / least := by omega
    exact (Nat.le_div_iff_mul_le (by omega)).1 this
  have hmd : ¬ ((r.length : Int) / (least : Int)) < (m : Int) := by
    rw [← Int.natCast_ediv]
    omega
  have hcall := mQ s S hS hs8 g l w0 w h hb hsl
  rw [← hm, ← hr] at hcall
  have HLE := iD.mk hle'
  clear hn hm hr hle hle' h hb hsl hS
  have hl1 : (1 : Int) ≤ (least : Int) := by omega
  go_enter Tryd.func130, Tryd.ntmps130
  go_wp2_with (go_at_call 119; refine hcall.mono ?_; rintro e w1 ⟨rfl, hR, hG⟩; obtain ⟨A1, c1, hblk, hc1, hC1⟩ := hR; have HBL := iD.mk hblk; have HC1 := iD.mk hC1; have hm1 := lH hC1; have z0 : w1.cell? ⟨g, 0, none⟩ = some (.slice A1 r.length c1) := (iE hblk 0).trans rfl; clear hblk hC1; obtain ⟨hq1, hq2⟩ := MX r.length least hm1; have hmr : (m : Int) ≤ 9223372036854775807 := by (have := HLE.out; have := Nat.le_mul_of_pos_right m (show 0 < least by omega); omega))
  go_ret
  exact ⟨rfl, ⟨A1, c1, HBL.out, hc1, HC1.out⟩, hG, HLE.out⟩
set_option maxHeartbeats 2000000 in
theorem oU (s least : Nat) (S T : Int) (hS : S = s) (hT : T = least) (hs8 : s ≤ 8) (h1 : 1 ≤ least) (g : Nat) (l : List UInt8) (w0 w : World) (h : Rd w0 w g l) (hb : Below w0.heap.size w0 w) (hg : w0.heap.size ≤ g) (hl : many s least l = none) :
    Calls Tryd.prog 130 #[.pointer (some ⟨g, 0, none⟩), .int .i64 S, .int .i64 T] w fun e w' => e = .panicked zA ∧ w.grownBy w' (some g) := by
  subst hT
  unfold many at hl
  cases hn : number s l with
  | none =>
    have hcall := jZ s S hS g l w0 w h (qU hn)
    clear hn hl h hb hS
    go_enter Tryd.func130, Tryd.ntmps130
    go_wp2_with (go_at_call 119; refine hcall.mono ?_; rintro e w1 ⟨rfl, hG⟩)
    exact ⟨rfl, rfl, hG⟩
  | some x =>
    obtain ⟨m, r⟩ := x
    rw [hn] at hl
    simp only [Option.bind_some] at hl
    split at hl
    · rename_i hgt
      obtain ⟨hsl, hm, hr⟩ := mX hn
      have hmd : ((r.length : Int) / (least : Int)) < (m : Int) := by
        rw [← Int.natCast_ediv]
        omega
      have hcall := mQ s S hS hs8 g l w0 w h hb hsl
      rw [← hm, ← hr] at hcall
      clear hn hm hr hgt h hb hsl hS hl
      have hl1 : (1 : Int) ≤ (least : Int) := by omega
      go_enter Tryd.func130, Tryd.ntmps130
      go_wp2_with (go_at_call 119; refine hcall.mono ?_; rintro e w1 ⟨rfl, hR, hG⟩; obtain ⟨A1, c1, hblk, hc1, hC1⟩ := hR; have hm1 := lH hC1; have z0 : w1.cell? ⟨g, 0, none⟩ = some (.slice A1 r.length c1) := (iE hblk 0).trans rfl; clear hblk hC1; obtain ⟨hq1, hq2⟩ := MX r.length least hm1)
      exact ⟨rfl, rfl, hG⟩
    · cases hl
end Go.Proofs.YtgfkgppomaapiaaDoor.K
end

section
namespace Go.Proofs.YtgfkgppomaapiaaDoor.K
open RowKit YtgfkgppomaapiaaDoorW.PrintWords YtgfkgppomaapiaaDoorW.PrintLast YtgfkgppomaapiaaDoorW.PrintMore My
def PP {α : Type} (res : Option (α × List UInt8)) (val : α → Value → World → Prop) (w0 w : World) (g : Nat) (e : Ending) (w' : World) : Prop :=
  w.grownBy w' (some g) ∧ ((∃ x l' v, res = some (x, l') ∧ e = .returned v ∧ val x v w' ∧ Rd w0 w' g l') ∨ (res = none ∧ e = .panicked zA))
theorem PP.ok {α : Type} {res : Option (α × List UInt8)} {val : α → Value → World → Prop} {w0 w w' : World} {g : Nat} {e : Ending} {x : α} {l : List UInt8} (h : PP res val w0 w g e w') (hr : res = some (x, l)) : ∃ v, e = .returned v ∧ val x v w' ∧ Rd w0 w' g l ∧ w.grownBy w' (some g) := by
  obtain ⟨hg, ⟨x', l', v, h1, h2, h3, h4⟩ | ⟨h1, _⟩⟩ := h
  · rw [hr] at h1
    injection h1 with h1
    injection h1 with h1 h5
    subst h1; subst h5
    exact ⟨v, h2, h3, h4, hg⟩
  · rw [hr] at h1; cases h1
theorem PP.short {α : Type} {res : Option (α × List UInt8)} {val : α → Value → World → Prop} {w0 w w' : World} {g : Nat} {e : Ending} (h : PP res val w0 w g e w') (hr : res = none) : e = .panicked zA ∧ w.grownBy w' (some g) := by
  obtain ⟨hg, ⟨x', l', v, h1, _⟩ | ⟨_, h2⟩⟩ := h
  · rw [hr] at h1; cases h1
  · exact ⟨h2, hg⟩
def RI (w : World) (base : Nat) (v : Value) (xs : List Int) : Prop := Kd.R (Kd.int .i64) 3 w base (fun _ => True) v xs
theorem kV {α : Type} {d : Kd α} {e : Nat} {w w1 : World} {base : Nat} {ok : Nat → Prop} {v : Value} {xs : List α} {g : Nat} (h : d.R e w base ok v xs) (hg : w.grownBy w1 (some g)) (hlt : g < base) : d.R e w1 base ok v xs :=
  Kd.R_mono (Kd.R_grown (Kd.R_bound h) hg (fun k hk e => by have := hk.2.1; injection e with e; omega)) (fun _ hk => hk.1)
theorem Q3 {α : Type} {d : Kd α} {e : Nat} {w : World} {base : Nat} {ok : Nat → Prop} {ad : Addr} {n cap : Nat} {xs : List α} (h : d.R e w base ok (.slice (some ad) n cap) xs) : ∃ g, ad = ⟨g, 0, none⟩ := Kd.R_head h
theorem VL {w : World} {base : Nat} {ad : Addr} {n c : Nat} {xs : List Int} (h : RI w base (.slice (some ad) n c) xs) (k : Nat) (hk : k < n) (x : Int) :
    (∃ old, w.cell? (ad.add k) = some old) ∧ w.frozen? (ad.add k) = false ∧ base ≤ ad.block ∧
    RI (w.setCell (ad.add k) (.int .i64 x)) base (.slice (some ad) n c) (xs.set k x) ∧ w.grownBy (w.setCell (ad.add k) (.int .i64 x)) (some ad.block) := by
  obtain ⟨g, rfl⟩ := Q3 h
  have ho := Kd.own_of_R (enc := Value.int .i64) (h1 := fun _ => rfl) h
  obtain ⟨hlen, _, hC⟩ := Kd.R_reads' h
  obtain ⟨A1, e1, hx⟩ := Kd.at_int hC (k : Int) (by omega) (by omega)
  injection e1 with e1
  subst e1
  rw [Int.toNat_natCast] at hx
  obtain ⟨cells, hc⟩ := qZ ho g (by simp [Value.ownBlock])
  rw [← hlen] at ho
  obtain ⟨h2, h3⟩ := IL ho (k : Int) x
  rw [Int.toNat_natCast] at h2 h3
  have ha : (⟨g, 0, none⟩ : Addr).add k = ⟨g, k, none⟩ := by rw [add_plain]
  rw [ha] at hx ⊢
  refine ⟨⟨_, hx⟩, iC hc k, ?_, Kd.R_of_own ?_ (fun _ _ => trivial), h3⟩
  · exact Kd.R_base h g (by simp [Value.ownBlock])
  · rw [List.length_set, ← hlen]
    exact h2
theorem UM {W : World} {n base : Nat} (hn : n ≤ 9223372036854775807) (hb : base ≤ W.heap.size) : RI (W.alloc (.cells (madeCells #[.int .i64 0] n) 3)) base (.slice (some ⟨W.heap.size, 0, none⟩) n n) (List.replicate n 0) := by
  refine Kd.R_of_own ?_ (fun _ _ => trivial)
  have h := World.ownsRow_lit (base := base) (e := 3) (size := 1) W (madeCells #[.int .i64 0] n) n hb (by unfold maxLen; omega) (by simp [madeCells])
  rw [List.length_replicate]
  have e : (madeCells #[.int .i64 0] n).toList = encs (Value.int .i64) (List.replicate n 0) := by
    apply List.ext_getElem
    · simp [madeCells, encs]
    · intro i h1 h2
      simp [madeCells, Nat.mod_one, encs]
  rw [← e]
  exact h
theorem lU {w w1 w2 : World} {g b : Nat} (h : w.grownBy w1 (some g)) (k : w1.grownBy w2 (some b)) (hb : w.heap.size ≤ b) : w.grownBy w2 (some g) :=
  ⟨k.os.trans h.os, k.tape.trans h.tape, k.output.trans h.output, Nat.le_trans h.size k.size, fun i hi hne => (k.block i (Nat.lt_of_lt_of_le hi h.size) (fun e => by injection e with e; omega)).trans (h.block i hi hne)⟩
theorem vW {α : Type} (p : List UInt8 → Option (α × List UInt8)) (n : Nat) (b : List UInt8) : repP p (n + 1) b = (p b).bind fun x => (repP p n x.2).bind fun y => some (x.1 :: y.1, y.2) := rfl
def Left {α : Type} (p : List UInt8 → Option (α × List UInt8)) (n k : Nat) (l r : List UInt8) (done : List α) : Prop :=
  done.length = k ∧ repP p n l = (repP p (n - k) r).bind fun y => some (done ++ y.1, y.2)
theorem Left.start {α : Type} (p : List UInt8 → Option (α × List UInt8)) (n : Nat) (l : List UInt8) : Left p n 0 l l [] := by
  refine ⟨rfl, ?_⟩
  rw [Nat.sub_zero]
  cases repP p n l <;> rfl
theorem Left.next {α : Type} {p : List UInt8 → Option (α × List UInt8)} {n k : Nat} {l r r' : List UInt8} {done : List α} {x : α} (h : Left p n k l r done) (hk : k < n) (hp : p r = some (x, r')) : Left p n (k + 1) l r' (done ++ [x]) := by
  refine ⟨by rw [List.length_append, h.1]; rfl, ?_⟩
  rw [h.2, show n - k = (n - (k + 1)) + 1 by omega, vW, hp]
  simp only [Option.bind_some]
  cases repP p (n - (k + 1)) r' with
  | none => rfl
  | some y => simp
theorem Left.fail {α : Type} {p : List UInt8 → Option (α × List UInt8)} {n k : Nat} {l r : List UInt8} {done : List α} (h : Left p n k l r done) (hk : k < n) (hp : p r = none) : repP p n l = none := by
  rw [h.2, show n - k = (n - (k + 1)) + 1 by omega, vW, hp]
  rfl
theorem Left.done {α : Type} {p : List UInt8 → Option (α × List UInt8)} {n : Nat} {l r : List UInt8} {done : List α} (h : Left p n n l r done) : repP p n l = some (done, r) := by
  rw [h.2, Nat.sub_self]
  simp [repP]
theorem ML {α : Type} (z x : α) (done : List α) (n k : Nat) (hd : done.length = k) (hk : k < n) : (done ++ List.replicate (n - k) z).set k x = (done ++ [x]) ++ List.replicate (n - (k + 1)) z := by
  rw [List.set_append_right _ _ (by omega), hd, Nat.sub_self, show n - k = (n - (k + 1)) + 1 by omega, List.replicate_succ, List.set_cons_zero, List.append_assoc]
  rfl
theorem nC {s least n : Nat} {l r : List UInt8} (h : many s least l = some (n, r)) (h1 : 1 ≤ least) : r.length + s = l.length ∧ n * least ≤ r.length := by
  unfold many at h
  obtain ⟨⟨m, r'⟩, hn, hl⟩ := Option.bind_eq_some_iff.1 h
  simp only at hl
  split at hl
  · cases hl
  injection hl with hl
  injection hl with e1 e2
  subst e1; subst e2
  rename_i hle
  obtain ⟨h3, _, rfl⟩ := mX hn
  refine ⟨by rw [List.length_drop]; omega, (Nat.le_div_iff_mul_le (by omega)).1 (by omega)⟩
theorem PO (n : Nat) (h : n < 9223372036854775808) : wrap64 (n : Int) = (n : Int) := by unfold wrap64; omega
theorem rH {t e : TypeId} {z : Value} {size bytes : Nat} (ht : Tryd.prog.underlying t = some (.slice e)) (hinfo : (Tryd.prog.info? e).map (fun i => (i.zero, i.size, i.bytes)) = some (some z, size, bytes)) (hb : bytes ≤ 100000) (n : Nat) (hn : (n : Int) ≤ 100000) (W : World) :
    (Instr.makeSlice t (.int .i64 (n : Int)) (.int .i64 (n : Int))).run Tryd.prog W = .ok (.slice (some ⟨W.heap.size, 0, none⟩) n n) (W.alloc (.cells (madeCells z.cells (n * size)) e)) := by
  obtain ⟨i, hi, he⟩ := Option.map_eq_some_iff.1 hinfo
  simp only [Prod.mk.injEq] at he
  obtain ⟨h1, h2, h3⟩ := he
  have hbn : (i.bytes : Int) * (n : Int) ≤ 281474976710656 := by
    have h4 : (i.bytes : Int) ≤ 100000 := by omega
    have h5 : (i.bytes : Int) * (n : Int) ≤ 100000 * 100000 := Int.mul_le_mul h4 hn (by omega) (by omega)
    omega
  have := run_make W t e i z ht hi h1 .i64 .i64 (n : Int) (n : Int) (by omega) (by omega) hbn (by omega)
  rw [h2, Int.toNat_natCast] at this
  exact this
theorem nV {s : Nat} {l r : List UInt8} {x : Int} (h : intP s l = some (x, r)) : s ≤ l.length ∧ x = (numB (l.take s) : Int) ∧ r = l.drop s := by
  unfold intP at h
  obtain ⟨⟨m, r'⟩, hn, hl⟩ := Option.bind_eq_some_iff.1 h
  injection hl with hl
  injection hl with e1 e2
  subst e1; subst e2
  obtain ⟨h1, rfl, rfl⟩ := mX hn
  exact ⟨h1, rfl, rfl⟩
theorem lS {s : Nat} {l : List UInt8} (h : intP s l = none) : l.length < s := by
  unfold intP at h
  cases hn : number s l with
  | none => exact qU hn
  | some x => rw [hn] at h; cases h
theorem qB (l : List UInt8) (s : Nat) (hs : s ≤ 4) : (numB (l.take s) : Int) < 4294967296 := by
  have h1 := xB (l.take s)
  have h2 : (l.take s).length ≤ 4 := by rw [List.length_take]; omega
  have h3 : 256 ^ (l.take s).length ≤ 256 ^ 4 := Nat.pow_le_pow_right (by decide) h2
  have h4 : 256 ^ 4 = 4294967296 := by decide
  omega
set_option maxRecDepth 20000 in
set_option maxHeartbeats 2000000 in
theorem qI (g : Nat) (l : List UInt8) (w0 w : World) (h : Rd w0 w g l) (hb : Below w0.heap.size w0 w) (hg : w0.heap.size ≤ g) (hm : (l.length : Int) ≤ 100000) :
    Calls Tryd.prog 120 #[.pointer (some ⟨g, 0, none⟩)] w (PP (nP l) (fun xs v w' => RI w' w.heap.size v xs) w0 w g) := by
  have HR := iD.mk h
  have HB := iD.mk hb
  have hlt := h.lt
  clear h hb
  cases hmy : many 1 1 l with
  | none =>
    have hn : nP l = none := by unfold nP; rw [hmy]; rfl
    have hcall := oU 1 1 1 1 rfl rfl (by omega) (by omega) g l w0 w HR.out HB.out hg hmy
    have HN := iD.mk hn
    clear hmy hn
    go_enter Tryd.func120, Tryd.ntmps120
    go_wp2_with (go_at_call 130; refine hcall.mono ?_; rintro e w1 ⟨rfl, hG⟩)
    exact ⟨rfl, hG, .inr ⟨HN.out, rfl⟩⟩
  | some x =>
    obtain ⟨n, r0⟩ := x
    have hn : nP l = repP (intP 1) n r0 := by unfold nP; rw [hmy]; rfl
    have hcall := xX 1 1 1 1 rfl rfl (by omega) (by omega) g l r0 n w0 w HR.out HB.out hg hmy
    have HN := iD.mk hn
    obtain ⟨hl1, hl2⟩ := nC hmy (by omega)
    have hn1 : (n : Int) ≤ 100000 := by omega
    have hr1 : (r0.length : Int) ≤ 100000 := by omega
    have hmk := rH (t := 23) (e := 3) Tryd.underlying23 info3 (by omega) n hn1
    clear hmy hn hl1 hl2
    go_enter Tryd.func120, Tryd.ntmps120
    go_wp2_with (go_at_call 130; refine hcall.mono ?_; rintro e w1 ⟨rfl, hR, hG, hle⟩; clear hle; have HR1 := iD.mk hR; have HG1 := iD.mk hG; clear hR hG)
    have HO := iD.mk (UM (W := w1) (n := n) (base := w.heap.size) (by omega) HG1.out.size)
    have HG := iD.mk (jB HG1.out (grown_below (iF (Below.refl _ _) (.cells (madeCells #[.int .i64 0] n) 3))))
    have HR2 := iD.mk (Rd.grown HR1.out (grown_below (row := none) (iF (Below.refl _ _) (.cells (madeCells #[.int .i64 0] n) 3))) (by simp))
    clear HR1 HG1 hcall hmk
    obtain ⟨ad, had⟩ : ∃ ad : Addr, ad = ⟨w1.heap.size, 0, none⟩ := ⟨_, rfl⟩
    rw [← had] at HO ⊢
    obtain ⟨W2, hW⟩ : ∃ W2, W2 = w1.alloc (.cells (madeCells #[.int .i64 0] n) 3) := ⟨_, rfl⟩
    rw [← hW] at HO HG HR2 ⊢
    clear hW had
    go_loopw [10] (fun i wr => ∃ (k : Nat) (done : List Int) (r : List UInt8), k ≤ n ∧ i = .int .i64 k ∧ iD (Left (intP 1) n k r0 r done) ∧ iD (Rd w0 wr g r) ∧ iD (RI wr w.heap.size (.slice (some ad) n n) (done ++ List.replicate (n - k) 0)) ∧ iD (w.grownBy wr (some g))) (fun i _ => n - (intOf i).toNat)
    case atStart => exact ⟨0, [], r0, Nat.zero_le _, rfl, ⟨Left.start _ _ _⟩, HR2, HO, HG⟩
    case round =>
      obtain ⟨k, done, r, hk, rfl, HL, HRd, HOk, HGk⟩ := hrel
      clear HR2 HO HG
      by_cases hkn : k < n
      · cases hp : intP 1 r with
        | none =>
          have hcall := jZ 1 1 rfl g r w0 wr HRd.out (lS hp)
          have HF := iD.mk (Left.fail HL.out hkn hp)
          clear hp
          go_wp2_with (go_at_call 119; refine hcall.mono ?_; rintro e w2 ⟨rfl, hG⟩)
          exact ⟨rfl, jB HGk.out hG, .inr ⟨by rw [HN.out]; exact HF.out, rfl⟩⟩
        | some x =>
          obtain ⟨x, r'⟩ := x
          obtain ⟨hs1, hx, hr'⟩ := nV hp
          have HN1 := iD.mk (Left.next HL.out hkn hp)
          have hcall := mQ 1 1 rfl (by omega) g r w0 wr HRd.out (below_grown HB.out HGk.out hg (Nat.le_refl _)) hs1
          have hsm := qB r 1 (by omega)
          rw [← hr'] at hcall
          obtain ⟨m, hm1⟩ : ∃ m, m = numB (r.take 1) := ⟨_, rfl⟩
          rw [← hm1] at hcall hsm hx
          subst hx
          clear hp hr' hm1 hs1
          go_wp2_with (go_at_call 119; refine hcall.mono ?_; rintro e w2 ⟨rfl, hR, hG⟩; obtain ⟨⟨old, ho⟩, hf, hbs, hset, hgr⟩ := VL (kV HOk.out hG hlt) k hkn (m : Int); have HS := iD.mk hset; have HGR := iD.mk (lU (jB HGk.out hG) hgr hbs); have HRR := iD.mk (Rd.grown hR hgr (by (intro e; injection e with e; omega))); clear hset hgr hbs hR hG)
          go_roundw
          case rel => exact ⟨k + 1, done ++ [(m : Int)], r', by omega, by go_num, HN1, HRR, ⟨by rw [← ML _ _ _ _ _ HL.out.1 hkn]; exact HS.out⟩, HGR⟩
          case measure => simp [intOf]; omega
      · obtain rfl : k = n := by omega
        go_wp2
        go_ret
        have hd := HOk.out
        rw [Nat.sub_self, List.replicate_zero, List.append_nil] at hd
        exact ⟨HGk.out, .inl ⟨done, r, _, by rw [HN.out]; exact Left.done HL.out, rfl, hd, HRd.out⟩⟩
def RW (e : Nat) (w : World) (base : Nat) (v : Value) (rows : List (List Value)) : Prop := (Kd.raw 2).R e w base (fun _ => True) v rows
theorem zY {e : Nat} {w : World} {base : Nat} {ad : Addr} {n c : Nat} {rows : List (List Value)} (h : RW e w base (.slice (some ad) n c) rows) (k : Nat) (hk : k < n) :
    ∃ x y, rows.getD k [] = [x, y] ∧ w.cell? (ad.add (k * 2)) = some x ∧ w.cell? ⟨(ad.add (k * 2)).block, (ad.add (k * 2)).off + 1, none⟩ = some y ∧ w.frozen? (ad.add (k * 2)) = false ∧ w.frozen? ⟨(ad.add (k * 2)).block, (ad.add (k * 2)).off + 1, none⟩ = false ∧ base ≤ ad.block ∧ ad.block < w.heap.size ∧
    (∀ u : Value, u.oneCell' = true → RW e (w.setCell (ad.add (k * 2)) u) base (.slice (some ad) n c) (rows.set k [u, y]) ∧ w.grownBy (w.setCell (ad.add (k * 2)) u) (some ad.block)) ∧
    (∀ u : Value, u.oneCell' = true → RW e (w.setCell ⟨(ad.add (k * 2)).block, (ad.add (k * 2)).off + 1, none⟩ u) base (.slice (some ad) n c) (rows.set k [x, u]) ∧ w.grownBy (w.setCell ⟨(ad.add (k * 2)).block, (ad.add (k * 2)).off + 1, none⟩ u) (some ad.block)) := by
  obtain ⟨g, rfl⟩ := Q3 h
  have hb := Kd.R_base h g (by simp [Value.ownBlock])
  have hlt := Kd.R_lt h g (by simp [Value.ownBlock])
  obtain ⟨cc, hcl, hM, hcc, hf⟩ := Kd.R_elem h [] (k : Int) (by omega) (by omega)
  rw [Int.toNat_natCast] at hM hcc hf
  have hM' : cc = rows.getD k [] ∧ cc.length = 2 ∧ ∀ u ∈ cc, u.oneCell' = true := hM
  obtain ⟨hc1, hc2, hc3⟩ := hM'
  obtain ⟨x, y, rfl⟩ : ∃ x y, cc = [x, y] := by
    match cc, hc2 with
    | [x, y], _ => exact ⟨x, y, rfl⟩
  have ha : (⟨g, 0, none⟩ : Addr).add (k * 2) = ⟨g, k * 2, none⟩ := by rw [add_plain]
  rw [ha]
  have z0 : w.cell? ⟨g, k * 2, none⟩ = some x := hcc 0 x rfl
  have z1 : w.cell? ⟨g, k * 2 + 1, none⟩ = some y := hcc 1 y rfl
  have f0 : w.frozen? ⟨g, k * 2, none⟩ = false := hf 0
  have f1 : w.frozen? ⟨g, k * 2 + 1, none⟩ = false := hf 1
  have ox := hc3 x (by simp)
  have oy := hc3 y (by simp)
  have hcc' : ∀ j u, [x, y][j]? = some u → w.cell? ⟨g, (k : Int).toNat * (Kd.raw 2).sz + j, none⟩ = some u := by rw [Int.toNat_natCast]; exact hcc
  refine ⟨x, y, hc1.symm, z0, z1, f0, f1, hb, hlt, fun u hu => ?_, fun u hu => ?_⟩
  · have := Kd.R_seg (d := Kd.raw 2) (okp := fun _ => False) (c := [x, y]) (seg := [u]) (j := 0) (x' := [u, y]) h (k : Int) (by omega) (by omega) rfl hcc' (show _ ≤ 2 by simp) ⟨rfl, rfl, by
      intro z hz
      rcases List.mem_cons.1 hz with rfl | hz
      · exact hu
      · rcases List.mem_cons.1 hz with rfl | hz
        · exact oy
        · cases hz⟩ (fun _ hk => hk.elim)
    rw [Int.toNat_natCast] at this
    exact this
  · have := Kd.R_seg (d := Kd.raw 2) (okp := fun _ => False) (c := [x, y]) (seg := [u]) (j := 1) (x' := [x, u]) h (k : Int) (by omega) (by omega) rfl hcc' (show _ ≤ 2 by simp) ⟨rfl, rfl, by
      intro z hz
      rcases List.mem_cons.1 hz with rfl | hz
      · exact ox
      · rcases List.mem_cons.1 hz with rfl | hz
        · exact hu
        · cases hz⟩ (fun _ hk => hk.elim)
    rw [Int.toNat_natCast] at this
    exact this
theorem QC {e : Nat} {W : World} {n base : Nat} {x y : Value} (ox : x.oneCell' = true) (oy : y.oneCell' = true) (hn : n ≤ 9223372036854775807) (hb : base ≤ W.heap.size) : RW e (W.alloc (.cells (madeCells #[x, y] (n * 2)) e)) base (.slice (some ⟨W.heap.size, 0, none⟩) n n) (List.replicate n [x, y]) := by
  refine ⟨fun _ _ => trivial, (madeCells #[x, y] (n * 2)).toList, ?_, ?_, ?_⟩
  · rw [List.length_replicate]
    exact World.ownsRow_lit W (madeCells #[x, y] (n * 2)) n hb (by unfold maxLen; omega) (by simp [madeCells, Kd.raw])
  · simp [madeCells, Kd.raw]
  · intro j p hj
    obtain ⟨hjl, hjp⟩ := List.getElem?_eq_some_iff.1 hj
    rw [List.length_replicate] at hjl
    rw [List.getElem_replicate] at hjp
    subst hjp
    have hcell : (((madeCells #[x, y] (n * 2)).toList.drop (j * (Kd.raw 2).sz)).take (Kd.raw 2).sz) = [x, y] := by
      apply List.ext_getElem
      · simp [madeCells, Kd.raw]; omega
      · intro i h1 h2
        have hi : i < 2 := by simpa using h2
        rw [List.getElem_take, List.getElem_drop]
        have hi' : i = 0 ∨ i = 1 := by omega
        rcases hi' with rfl | rfl <;> simp [madeCells, Kd.raw, Nat.add_mod]
    rw [hcell]
    refine ⟨rfl, rfl, fun u hu => ?_⟩
    rcases List.mem_cons.1 hu with rfl | hu
    · exact ox
    · rcases List.mem_cons.1 hu with rfl | hu
      · exact oy
      · cases hu
theorem IE {α : Type} {d : Kd α} (hd : d.sz = 2) {e : Nat} {w : World} {base : Nat} {v : Value} {rows : List (List Value)} {xs : List α} {ok : Nat → Prop} (h : RW e w base v rows) (hl : xs.length = rows.length) (hok : ∀ k, v.ownBlock = some k → ok k) (hM : ∀ (j : Nat) (p : α) (c : List Value), xs[j]? = some p → rows[j]? = some c → d.M w base (fun k => ok k ∧ some k ≠ v.ownBlock) p c) : d.R e w base ok v xs := by
  obtain ⟨_, inner, ho, hr⟩ := h
  refine ⟨hok, inner, ?_, ?_, ?_⟩
  · rw [hl, hd]; exact ho
  · rw [hl, hd]; exact hr.1
  · intro j p hj
    have hjl : j < rows.length := by rw [← hl]; exact (List.getElem?_eq_some_iff.1 hj).1
    have hc := hr.2 j rows[j] (List.getElem?_eq_getElem hjl)
    rw [hd]
    have e : ((inner.drop (j * (Kd.raw 2).sz)).take (Kd.raw 2).sz) = rows[j] := hc.1
    show d.M w base _ p ((inner.drop (j * 2)).take 2)
    rw [show ((inner.drop (j * 2)).take 2) = rows[j] from e]
    exact hM j p _ hj (List.getElem?_eq_getElem hjl)
end Go.Proofs.YtgfkgppomaapiaaDoor.K
end
