/- Parts of the proof, one behind the other: RefE, CodeT, K33, CodeD, CodeN, Came, CameR, K2, K3, LawE, LawF, K43, K44, K45, K1, K46, K47. -/
import Derived.Test.YtgfkgppomaapiaaDoorQCodeDecodes5
import Derived.Recover
import Derived.Defers
import Derived.Laws.ResultCell
import Derived.Deep.Slices
import Derived.ChangeSame
set_option linter.unusedVariables false
set_option linter.unusedSimpArgs false
section
namespace Go.Proofs.YtgfkgppomaapiaaDoor.K
open RowKit YtgfkgppomaapiaaDoorW.PrintWords YtgfkgppomaapiaaDoorW.PrintLast YtgfkgppomaapiaaDoorW.PrintMore My
theorem kH {w1 w2 : World} {B : Nat} {o : Obj} (hk : Kept w1 w2 (fun k => B < k)) (hx : w1.heap[B]? = some o) : w2.heap[B]? = some o := (hk.2 B (iZ hx) (Nat.lt_irrefl B)).trans hx
theorem J5 (w : World) (base : Nat) (x : Int) (B : Nat) (hb : base ≤ w.heap.size) (hB : B < w.heap.size) : Kd.R (Kd.int .u8) 5 (w.alloc (.cells #[.int .u8 x] 5)) base (fun k => B < k) (.slice (some ⟨w.heap.size, 0, none⟩) 1 1) [x] := by
  refine Kd.R_of_own (enc := Value.int .u8) (h1 := fun _ => rfl) ⟨rfl, .inr ⟨w.heap.size, 1, #[.int .u8 x], rfl, hb, iT rfl, Nat.le_refl _, by unfold maxLen; omega, rfl, rfl⟩⟩ ?_
  intro k hk
  have : w.heap.size = k := by simpa [Value.ownBlock] using hk
  omega
def nX (w : World) (r : List Int × Int) (e : Ending) (w' : World) : Prop := ∃ v0_ : Value, e = .returned (.tuple #[v0_, .int .i64 r.2]) ∧ Kd.R (Kd.int .u8) 5 w' w.heap.size (fun _ => True) v0_ r.1 ∧ Below w.heap.size w w'
theorem pF {w : World} {A4 A9 : Option Addr} {l3 : List Int} {l4 : List jO} {l6 : List jV} {l9 : List jE} {A3 A6 : Option Addr} (h3 : Kd.C (Kd.int .i64) w A3 l3.length l3) (h4 : Kd.C k139 w A4 l4.length l4) (h6 : Kd.C k98 w A6 l6.length l6) (h9 : Kd.C k86 w A9 l9.length l9) : RD l3 l4 l6 l9 := by
  have key : ∀ {A : Option Addr} {l : List jO}, Kd.C k139 w A l.length l → ∀ f ∈ l, f.f0.length ≤ 9223372036854775807 := by
    intro A l h f hf
    obtain ⟨i, hi, rfl⟩ := List.getElem_of_mem hf
    obtain ⟨_, _, _, _, _, _, _, hC⟩ := kN h i (by omega) (by omega)
    have e : iV l i = l[i] := by unfold iV; rw [Int.toNat_natCast, List.getD_eq_getElem?_getD, List.getElem?_eq_getElem hi]; rfl
    rw [e] at hC
    exact kQ hC
  refine ⟨kQ h3, kQ h4, key h4, kQ h6, kQ h9, fun e he => ?_⟩
  obtain ⟨i, hi, rfl⟩ := List.getElem_of_mem he
  obtain ⟨_, _, _, _, _, _, _, hC⟩ := kV h9 i (by omega) (by omega)
  have e : iP l9 i = l9[i] := by unfold iP; rw [Int.toNat_natCast, List.getD_eq_getElem?_getD, List.getElem?_eq_getElem hi]; rfl
  rw [e] at hC
  exact ⟨kQ hC, key hC⟩
section
variable (a1 a2 : Int) (A3 : Option Addr) (c3 : Nat) (l3 : List Int) (A4 : Option Addr) (c4 : Nat) (l4 : List jO) (a5 : Int) (A6 : Option Addr) (c6 : Nat) (l6 : List jV) (a7 a8 : Int) (A9 : Option Addr) (c9 : Nat) (l9 : List jE) (w : World)
    (h3 : Kd.C (Kd.int .i64) w A3 l3.length l3) (d3 : l3.length ≤ c3) (h4 : Kd.C k139 w A4 l4.length l4) (d4 : l4.length ≤ c4) (h6 : Kd.C k98 w A6 l6.length l6) (d6 : l6.length ≤ c6) (h9 : Kd.C k86 w A9 l9.length l9) (d9 : l9.length ≤ c9)
include h3 d3 h4 d4 h6 d6 h9 d9
set_option maxHeartbeats 8000000 in
set_option maxRecDepth 20000 in
theorem OE (hs : jJ ⟨1, a1, a2, l3, l4, ⟨a5, l6⟩, a7, a8, l9⟩ = true) : Calls Tryd.prog 18 #[.agg #[.int .u8 1, .int .u32 a1, .int .u32 a2, .slice A3 l3.length c3, .slice A4 l4.length c4, .int .u32 a5, .slice A6 l6.length c6, .int .i64 a7, .int .i64 a8, .slice A9 l9.length c9]] w (nX w (encR ⟨1, a1, a2, l3, l4, ⟨a5, l6⟩, a7, a8, l9⟩)) := by
  obtain ⟨kk, hsk⟩ := (nS 1 a1 a2 l3 l4 a5 l6 a7 a8 l9 (pF h3 h4 h6 h9)).rounds
  rw [hs] at hsk
  have H3 := iC.mk h3; have H4 := iC.mk h4; have H6 := iC.mk h6; have H9 := iC.mk h9
  have hbw : Below w.heap.size w (w.alloc (.cells #[.int .u8 1, .int .u32 a1, .int .u32 a2, .slice A3 l3.length c3, .slice A4 l4.length c4, .int .u32 a5, .slice A6 l6.length c6, .int .i64 a7, .int .i64 a8, .slice A9 l9.length c9] 30)) := iF (Below.refl _ _) _
  have hsnd := stratumref07_Sound.calls kk 1 a1 a2 A3 c3 l3 A4 c4 l4 a5 A6 c6 l6 a7 a8 A9 c9 l9 true (w.alloc (.cells #[.int .u8 1, .int .u32 a1, .int .u32 a2, .slice A3 l3.length c3, .slice A4 l4.length c4, .int .u32 a5, .slice A6 l6.length c6, .int .i64 a7, .int .i64 a8, .slice A9 l9.length c9] 30)) (Kd.C_below h3 hbw) d3 (Kd.C_below h4 hbw) d4 (Kd.C_below h6 hbw) d6 (Kd.C_below h9 hbw) d9 hsk
  have HS := iC.mk hs
  have q3 : l3.length ≤ 6 ∧ (kC l4).length ≤ 5004 := by
    have h := HS.out
    rw [PK, Bool.and_eq_true, Bool.and_eq_true] at h
    exact ⟨o8 _ h.1.1, qK _ h.1.2⟩
  unfold encR
  rw [if_pos HS.out]
  obtain ⟨X, hX⟩ : ∃ X : List UInt8, X = recE ⟨1, a1, a2, l3, l4, ⟨a5, l6⟩, a7, a8, l9⟩ := ⟨_, rfl⟩
  rw [← hX]
  have HXX := iC.mk hX
  obtain ⟨r, hr⟩ : ∃ r : List Int × Int, r = (if 60000 < X.length then ([], 3) else (nums X, 0)) := ⟨_, rfl⟩
  rw [← hr]
  have HRR := iC.mk hr
  clear hr hs hX hsk hbw h3 h4 h6 h9
  go_enter Tryd.func18, Tryd.ntmps18
  go_wp2_with fail
  go_at_call 20
  (with_reducible refine hsnd.mono ?_)
  clear hsnd
  rintro e w0 ⟨rfl, hb1⟩
  have hB0 : Below w.heap.size w w0 := iI (iF (Below.refl _ _) _) hb1
  have hX0 : w0.heap[w.heap.size]? = some (.cells #[.int .u8 1, .int .u32 a1, .int .u32 a2, .slice A3 l3.length c3, .slice A4 l4.length c4, .int .u32 a5, .slice A6 l6.length c6, .int .i64 a7, .int .i64 a8, .slice A9 l9.length c9] 30 (0, 0)) := iK hb1 (iT rfl)
  obtain ⟨z0, z1, z2, z3, z4, z5, z6, z7, z8, z9, y0, y1, y2, y3, y4, y5, y6, y7, y8, y9⟩ := ten hX0
  have HO := iC.mk (J5 w0 w.heap.size 1 w.heap.size hB0.size (iZ hX0))
  have HB := iC.mk (iF hB0 (.cells #[.int .u8 1] 5))
  have HX := iC.mk (jG (o := .cells #[.int .u8 1] 5) hX0)
  have HW1 := iC.mk (show w0.alloc (.cells #[.int .u8 1] 5) = w0.alloc (.cells #[.int .u8 1] 5) from rfl)
  clear hb1 hB0 hX0
  go_upto_region 4 with fail
  clear z0 z1 z2 z3 z4 z5 z6 z7 z8 z9 y0 y1 y2 y3 y4 y5 y6 y7 y8 y9
  obtain ⟨w1, hw1⟩ : ∃ x, x = w0.alloc (.cells #[.int .u8 1] 5) := ⟨_, rfl⟩
  rw [← hw1] at HO HB HX ⊢
  clear HW1
  have HW1 := iC.mk hw1
  clear hw1
  obtain ⟨L1, hL⟩ : ∃ l, l = [(1 : Int)] := ⟨_, rfl⟩
  have hn1 : L1.length ≤ 1 := by rw [hL]; simp
  rw [← hL] at HO
  have HL1 := iC.mk hL
  clear hL
  obtain ⟨z0, z1, z2, z3, z4, z5, z6, z7, z8, z9, y0, y1, y2, y3, y4, y5, y6, y7, y8, y9⟩ := ten HX.out
  have hcall := kR (fun k => w.heap.size < k) (.slice (some ⟨w0.heap.size, 0, none⟩) 1 1) L1 (a1) (IntKind.u64.wrap a1) 4 4 w w1 (by first | rfl | (rw [wrap_u64]; omega)) rfl (by omega) (by omega) HB.out HO.out
  go_wp2_with fail
  go_at_call 57
  (with_reducible refine hcall.mono ?_)
  clear hcall z0 z1 z2 z3 z4 z5 z6 z7 z8 z9 y0 y1 y2 y3 y4 y5 y6 y7 y8 y9
  rintro e w2 ⟨v2, rfl, ho, hb, hk⟩
  have HO' := iC.mk (Kd.R_mono (ok' := fun k => w.heap.size < k) ho (fun k h => h.elim id (fun h => Nat.lt_of_lt_of_le (iZ HX.out) h)))
  have HX' := iC.mk (kH hk HX.out)
  have HB' := iC.mk hb
  clear ho hb hk HO HX HB
  obtain ⟨HO, HX, HB⟩ : _ ∧ _ ∧ _ := ⟨HO', HX', HB'⟩
  clear HO' HX' HB'
  obtain ⟨Ao, co, rfl⟩ := Kd.R_slice HO.out
  obtain ⟨L2, hL⟩ : ∃ l, l = L1 ++ nums (layB a1 4) := ⟨_, rfl⟩
  have hn2 : L2.length ≤ 5 := by rw [hL]; simp only [List.length_append, jD, iL]; omega
  rw [← hL] at HO ⊢
  have HL2 := iC.mk hL
  clear hL hn1
  obtain ⟨z0, z1, z2, z3, z4, z5, z6, z7, z8, z9, y0, y1, y2, y3, y4, y5, y6, y7, y8, y9⟩ := ten HX.out
  have hcall := yB (fun k => w.heap.size < k) _ L2 A3 c3 l3 w w2 (by rw [iU]; omega) HB.out HO.out (Kd.C_kept_came (Kd.heap_int .i64) H3.out HB.out (fun k h => Nat.le_of_lt h)) d3
  go_wp2_with fail
  go_at_call 58
  (with_reducible refine hcall.mono ?_)
  clear hcall z0 z1 z2 z3 z4 z5 z6 z7 z8 z9 y0 y1 y2 y3 y4 y5 y6 y7 y8 y9
  rintro e w3 ⟨v3, rfl, ho, hb, hk⟩
  have HO' := iC.mk (Kd.R_mono (ok' := fun k => w.heap.size < k) ho (fun k h => h.elim id (fun h => Nat.lt_of_lt_of_le (iZ HX.out) h)))
  have HX' := iC.mk (kH hk HX.out)
  have HB' := iC.mk hb
  clear ho hb hk HO HX HB
  obtain ⟨HO, HX, HB⟩ : _ ∧ _ ∧ _ := ⟨HO', HX', HB'⟩
  clear HO' HX' HB'
  obtain ⟨Ao, co, rfl⟩ := Kd.R_slice HO.out
  obtain ⟨L3, hL⟩ : ∃ l, l = L2 ++ nums (lN l3) := ⟨_, rfl⟩
  have hn3 : L3.length ≤ 12 := by rw [hL]; simp only [List.length_append, jD, iL, iU]; omega
  rw [← hL] at HO ⊢
  have HL3 := iC.mk hL
  clear hL hn2
  obtain ⟨z0, z1, z2, z3, z4, z5, z6, z7, z8, z9, y0, y1, y2, y3, y4, y5, y6, y7, y8, y9⟩ := ten HX.out
  have hcall := xH (fun k => w.heap.size < k) _ L3 A4 c4 l4 w w3 (by omega) HB.out HO.out (Kd.C_kept_came pG H4.out HB.out (fun k h => Nat.le_of_lt h)) d4
  go_wp2_with fail
  go_at_call 59
  (with_reducible refine hcall.mono ?_)
  clear hcall z0 z1 z2 z3 z4 z5 z6 z7 z8 z9 y0 y1 y2 y3 y4 y5 y6 y7 y8 y9
  rintro e w4 ⟨v4, rfl, ho, hb, hk⟩
  have HO' := iC.mk (Kd.R_mono (ok' := fun k => w.heap.size < k) ho (fun k h => h.elim id (fun h => Nat.lt_of_lt_of_le (iZ HX.out) h)))
  have HX' := iC.mk (kH hk HX.out)
  have HB' := iC.mk hb
  clear ho hb hk HO HX HB
  obtain ⟨HO, HX, HB⟩ : _ ∧ _ ∧ _ := ⟨HO', HX', HB'⟩
  clear HO' HX' HB'
  obtain ⟨Ao, co, rfl⟩ := Kd.R_slice HO.out
  obtain ⟨L4, hL⟩ : ∃ l, l = L3 ++ nums (kC l4) := ⟨_, rfl⟩
  have hn4 : L4.length ≤ 5016 := by rw [hL]; simp only [List.length_append, jD, iL]; omega
  rw [← hL] at HO ⊢
  have HL4 := iC.mk hL
  clear hL hn3
  obtain ⟨z0, z1, z2, z3, z4, z5, z6, z7, z8, z9, y0, y1, y2, y3, y4, y5, y6, y7, y8, y9⟩ := ten HX.out
  have HLX := iC.mk (show L4 = nums X from by rw [HL4.out, HL3.out, HL2.out, HL1.out, HXX.out, RY]; simp only [List.nil_append, nums_append]; rfl)
  by_cases hq : (60000 : Int) < (L4.length : Int)
  · have HP : iC (r = ([], 3)) := ⟨by rw [HRR.out, if_pos (by rw [HLX.out, jD] at hq; omega)]⟩
    go_wp2_with fail
    go_ret2
    rw [HP.out]
    exact ⟨_, rfl, Kd.R_nil _ _ _ _ _, HB.out⟩
  · have HP : iC (r = (nums X, 0)) := ⟨by rw [HRR.out, if_neg (by rw [HLX.out, jD] at hq; omega)]⟩
    go_wp2_with fail
    go_ret2
    rw [HP.out]
    exact ⟨_, rfl, by rw [← HLX.out]; exact Kd.R_mono HO.out (fun _ _ => trivial), HB.out⟩
set_option maxHeartbeats 8000000 in
set_option maxRecDepth 20000 in
theorem OD (hs : jJ ⟨2, a1, a2, l3, l4, ⟨a5, l6⟩, a7, a8, l9⟩ = true) : Calls Tryd.prog 18 #[.agg #[.int .u8 2, .int .u32 a1, .int .u32 a2, .slice A3 l3.length c3, .slice A4 l4.length c4, .int .u32 a5, .slice A6 l6.length c6, .int .i64 a7, .int .i64 a8, .slice A9 l9.length c9]] w (nX w (encR ⟨2, a1, a2, l3, l4, ⟨a5, l6⟩, a7, a8, l9⟩)) := by
  obtain ⟨kk, hsk⟩ := (nS 2 a1 a2 l3 l4 a5 l6 a7 a8 l9 (pF h3 h4 h6 h9)).rounds
  rw [hs] at hsk
  have H3 := iC.mk h3; have H4 := iC.mk h4; have H6 := iC.mk h6; have H9 := iC.mk h9
  have hbw : Below w.heap.size w (w.alloc (.cells #[.int .u8 2, .int .u32 a1, .int .u32 a2, .slice A3 l3.length c3, .slice A4 l4.length c4, .int .u32 a5, .slice A6 l6.length c6, .int .i64 a7, .int .i64 a8, .slice A9 l9.length c9] 30)) := iF (Below.refl _ _) _
  have hsnd := stratumref07_Sound.calls kk 2 a1 a2 A3 c3 l3 A4 c4 l4 a5 A6 c6 l6 a7 a8 A9 c9 l9 true (w.alloc (.cells #[.int .u8 2, .int .u32 a1, .int .u32 a2, .slice A3 l3.length c3, .slice A4 l4.length c4, .int .u32 a5, .slice A6 l6.length c6, .int .i64 a7, .int .i64 a8, .slice A9 l9.length c9] 30)) (Kd.C_below h3 hbw) d3 (Kd.C_below h4 hbw) d4 (Kd.C_below h6 hbw) d6 (Kd.C_below h9 hbw) d9 hsk
  have HS := iC.mk hs
  have q3 : l3.length ≤ 6 := by
    have h := HS.out
    rw [ND, Bool.and_eq_true] at h
    exact o8 _ h.1
  unfold encR
  rw [if_pos HS.out]
  obtain ⟨X, hX⟩ : ∃ X : List UInt8, X = recE ⟨2, a1, a2, l3, l4, ⟨a5, l6⟩, a7, a8, l9⟩ := ⟨_, rfl⟩
  rw [← hX]
  have HXX := iC.mk hX
  obtain ⟨r, hr⟩ : ∃ r : List Int × Int, r = (if 60000 < X.length then ([], 3) else (nums X, 0)) := ⟨_, rfl⟩
  rw [← hr]
  have HRR := iC.mk hr
  clear hr hs hX hsk hbw h3 h4 h6 h9
  go_enter Tryd.func18, Tryd.ntmps18
  go_wp2_with fail
  go_at_call 20
  (with_reducible refine hsnd.mono ?_)
  clear hsnd
  rintro e w0 ⟨rfl, hb1⟩
  have hB0 : Below w.heap.size w w0 := iI (iF (Below.refl _ _) _) hb1
  have hX0 : w0.heap[w.heap.size]? = some (.cells #[.int .u8 2, .int .u32 a1, .int .u32 a2, .slice A3 l3.length c3, .slice A4 l4.length c4, .int .u32 a5, .slice A6 l6.length c6, .int .i64 a7, .int .i64 a8, .slice A9 l9.length c9] 30 (0, 0)) := iK hb1 (iT rfl)
  obtain ⟨z0, z1, z2, z3, z4, z5, z6, z7, z8, z9, y0, y1, y2, y3, y4, y5, y6, y7, y8, y9⟩ := ten hX0
  have HO := iC.mk (J5 w0 w.heap.size 2 w.heap.size hB0.size (iZ hX0))
  have HB := iC.mk (iF hB0 (.cells #[.int .u8 2] 5))
  have HX := iC.mk (jG (o := .cells #[.int .u8 2] 5) hX0)
  have HW1 := iC.mk (show w0.alloc (.cells #[.int .u8 2] 5) = w0.alloc (.cells #[.int .u8 2] 5) from rfl)
  clear hb1 hB0 hX0
  go_upto_region 4 with fail
  clear z0 z1 z2 z3 z4 z5 z6 z7 z8 z9 y0 y1 y2 y3 y4 y5 y6 y7 y8 y9
  obtain ⟨w1, hw1⟩ : ∃ x, x = w0.alloc (.cells #[.int .u8 2] 5) := ⟨_, rfl⟩
  rw [← hw1] at HO HB HX ⊢
  clear HW1
  have HW1 := iC.mk hw1
  clear hw1
  obtain ⟨L1, hL⟩ : ∃ l, l = [(2 : Int)] := ⟨_, rfl⟩
  have hn1 : L1.length ≤ 1 := by rw [hL]; simp
  rw [← hL] at HO
  have HL1 := iC.mk hL
  clear hL
  obtain ⟨z0, z1, z2, z3, z4, z5, z6, z7, z8, z9, y0, y1, y2, y3, y4, y5, y6, y7, y8, y9⟩ := ten HX.out
  have hcall := kR (fun k => w.heap.size < k) (.slice (some ⟨w0.heap.size, 0, none⟩) 1 1) L1 (a1) (IntKind.u64.wrap a1) 4 4 w w1 (by first | rfl | (rw [wrap_u64]; omega)) rfl (by omega) (by omega) HB.out HO.out
  go_wp2_with fail
  go_at_call 57
  (with_reducible refine hcall.mono ?_)
  clear hcall z0 z1 z2 z3 z4 z5 z6 z7 z8 z9 y0 y1 y2 y3 y4 y5 y6 y7 y8 y9
  rintro e w2 ⟨v2, rfl, ho, hb, hk⟩
  have HO' := iC.mk (Kd.R_mono (ok' := fun k => w.heap.size < k) ho (fun k h => h.elim id (fun h => Nat.lt_of_lt_of_le (iZ HX.out) h)))
  have HX' := iC.mk (kH hk HX.out)
  have HB' := iC.mk hb
  clear ho hb hk HO HX HB
  obtain ⟨HO, HX, HB⟩ : _ ∧ _ ∧ _ := ⟨HO', HX', HB'⟩
  clear HO' HX' HB'
  obtain ⟨Ao, co, rfl⟩ := Kd.R_slice HO.out
  obtain ⟨L2, hL⟩ : ∃ l, l = L1 ++ nums (layB a1 4) := ⟨_, rfl⟩
  have hn2 : L2.length ≤ 5 := by rw [hL]; simp only [List.length_append, jD, iL]; omega
  rw [← hL] at HO ⊢
  have HL2 := iC.mk hL
  clear hL hn1
  obtain ⟨z0, z1, z2, z3, z4, z5, z6, z7, z8, z9, y0, y1, y2, y3, y4, y5, y6, y7, y8, y9⟩ := ten HX.out
  have hcall := kR (fun k => w.heap.size < k) _ L2 (a2) (IntKind.u64.wrap a2) 4 4 w w2 (by first | rfl | (rw [wrap_u64]; omega)) rfl (by omega) (by omega) HB.out HO.out
  go_wp2_with fail
  go_at_call 57
  (with_reducible refine hcall.mono ?_)
  clear hcall z0 z1 z2 z3 z4 z5 z6 z7 z8 z9 y0 y1 y2 y3 y4 y5 y6 y7 y8 y9
  rintro e w3 ⟨v3, rfl, ho, hb, hk⟩
  have HO' := iC.mk (Kd.R_mono (ok' := fun k => w.heap.size < k) ho (fun k h => h.elim id (fun h => Nat.lt_of_lt_of_le (iZ HX.out) h)))
  have HX' := iC.mk (kH hk HX.out)
  have HB' := iC.mk hb
  clear ho hb hk HO HX HB
  obtain ⟨HO, HX, HB⟩ : _ ∧ _ ∧ _ := ⟨HO', HX', HB'⟩
  clear HO' HX' HB'
  obtain ⟨Ao, co, rfl⟩ := Kd.R_slice HO.out
  obtain ⟨L3, hL⟩ : ∃ l, l = L2 ++ nums (layB a2 4) := ⟨_, rfl⟩
  have hn3 : L3.length ≤ 9 := by rw [hL]; simp only [List.length_append, jD, iL]; omega
  rw [← hL] at HO ⊢
  have HL3 := iC.mk hL
  clear hL hn2
  obtain ⟨z0, z1, z2, z3, z4, z5, z6, z7, z8, z9, y0, y1, y2, y3, y4, y5, y6, y7, y8, y9⟩ := ten HX.out
  have hcall := yB (fun k => w.heap.size < k) _ L3 A3 c3 l3 w w3 (by rw [iU]; omega) HB.out HO.out (Kd.C_kept_came (Kd.heap_int .i64) H3.out HB.out (fun k h => Nat.le_of_lt h)) d3
  go_wp2_with fail
  go_at_call 58
  (with_reducible refine hcall.mono ?_)
  clear hcall z0 z1 z2 z3 z4 z5 z6 z7 z8 z9 y0 y1 y2 y3 y4 y5 y6 y7 y8 y9
  rintro e w4 ⟨v4, rfl, ho, hb, hk⟩
  have HO' := iC.mk (Kd.R_mono (ok' := fun k => w.heap.size < k) ho (fun k h => h.elim id (fun h => Nat.lt_of_lt_of_le (iZ HX.out) h)))
  have HX' := iC.mk (kH hk HX.out)
  have HB' := iC.mk hb
  clear ho hb hk HO HX HB
  obtain ⟨HO, HX, HB⟩ : _ ∧ _ ∧ _ := ⟨HO', HX', HB'⟩
  clear HO' HX' HB'
  obtain ⟨Ao, co, rfl⟩ := Kd.R_slice HO.out
  obtain ⟨L4, hL⟩ : ∃ l, l = L3 ++ nums (lN l3) := ⟨_, rfl⟩
  have hn4 : L4.length ≤ 16 := by rw [hL]; simp only [List.length_append, jD, iL, iU]; omega
  rw [← hL] at HO ⊢
  have HL4 := iC.mk hL
  clear hL hn3
  obtain ⟨z0, z1, z2, z3, z4, z5, z6, z7, z8, z9, y0, y1, y2, y3, y4, y5, y6, y7, y8, y9⟩ := ten HX.out
  have HLX := iC.mk (show L4 = nums X from by rw [HL4.out, HL3.out, HL2.out, HL1.out, HXX.out, TD]; simp only [List.nil_append, nums_append]; rfl)
  by_cases hq : (60000 : Int) < (L4.length : Int)
  · have HP : iC (r = ([], 3)) := ⟨by rw [HRR.out, if_pos (by rw [HLX.out, jD] at hq; omega)]⟩
    go_wp2_with fail
    go_ret2
    rw [HP.out]
    exact ⟨_, rfl, Kd.R_nil _ _ _ _ _, HB.out⟩
  · have HP : iC (r = (nums X, 0)) := ⟨by rw [HRR.out, if_neg (by rw [HLX.out, jD] at hq; omega)]⟩
    go_wp2_with fail
    go_ret2
    rw [HP.out]
    exact ⟨_, rfl, by rw [← HLX.out]; exact Kd.R_mono HO.out (fun _ _ => trivial), HB.out⟩
set_option maxHeartbeats 8000000 in
set_option maxRecDepth 20000 in
theorem PM (hs : jJ ⟨3, a1, a2, l3, l4, ⟨a5, l6⟩, a7, a8, l9⟩ = true) : Calls Tryd.prog 18 #[.agg #[.int .u8 3, .int .u32 a1, .int .u32 a2, .slice A3 l3.length c3, .slice A4 l4.length c4, .int .u32 a5, .slice A6 l6.length c6, .int .i64 a7, .int .i64 a8, .slice A9 l9.length c9]] w (nX w (encR ⟨3, a1, a2, l3, l4, ⟨a5, l6⟩, a7, a8, l9⟩)) := by
  obtain ⟨kk, hsk⟩ := (nS 3 a1 a2 l3 l4 a5 l6 a7 a8 l9 (pF h3 h4 h6 h9)).rounds
  rw [hs] at hsk
  have H3 := iC.mk h3; have H4 := iC.mk h4; have H6 := iC.mk h6; have H9 := iC.mk h9
  have hbw : Below w.heap.size w (w.alloc (.cells #[.int .u8 3, .int .u32 a1, .int .u32 a2, .slice A3 l3.length c3, .slice A4 l4.length c4, .int .u32 a5, .slice A6 l6.length c6, .int .i64 a7, .int .i64 a8, .slice A9 l9.length c9] 30)) := iF (Below.refl _ _) _
  have hsnd := stratumref07_Sound.calls kk 3 a1 a2 A3 c3 l3 A4 c4 l4 a5 A6 c6 l6 a7 a8 A9 c9 l9 true (w.alloc (.cells #[.int .u8 3, .int .u32 a1, .int .u32 a2, .slice A3 l3.length c3, .slice A4 l4.length c4, .int .u32 a5, .slice A6 l6.length c6, .int .i64 a7, .int .i64 a8, .slice A9 l9.length c9] 30)) (Kd.C_below h3 hbw) d3 (Kd.C_below h4 hbw) d4 (Kd.C_below h6 hbw) d6 (Kd.C_below h9 hbw) d9 hsk
  have HS := iC.mk hs
  unfold encR
  rw [if_pos HS.out]
  obtain ⟨X, hX⟩ : ∃ X : List UInt8, X = recE ⟨3, a1, a2, l3, l4, ⟨a5, l6⟩, a7, a8, l9⟩ := ⟨_, rfl⟩
  rw [← hX]
  have HXX := iC.mk hX
  obtain ⟨r, hr⟩ : ∃ r : List Int × Int, r = (if 60000 < X.length then ([], 3) else (nums X, 0)) := ⟨_, rfl⟩
  rw [← hr]
  have HRR := iC.mk hr
  clear hr hs hX hsk hbw h3 h4 h6 h9
  go_enter Tryd.func18, Tryd.ntmps18
  go_wp2_with fail
  go_at_call 20
  (with_reducible refine hsnd.mono ?_)
  clear hsnd
  rintro e w0 ⟨rfl, hb1⟩
  have hB0 : Below w.heap.size w w0 := iI (iF (Below.refl _ _) _) hb1
  have hX0 : w0.heap[w.heap.size]? = some (.cells #[.int .u8 3, .int .u32 a1, .int .u32 a2, .slice A3 l3.length c3, .slice A4 l4.length c4, .int .u32 a5, .slice A6 l6.length c6, .int .i64 a7, .int .i64 a8, .slice A9 l9.length c9] 30 (0, 0)) := iK hb1 (iT rfl)
  obtain ⟨z0, z1, z2, z3, z4, z5, z6, z7, z8, z9, y0, y1, y2, y3, y4, y5, y6, y7, y8, y9⟩ := ten hX0
  have HO := iC.mk (J5 w0 w.heap.size 3 w.heap.size hB0.size (iZ hX0))
  have HB := iC.mk (iF hB0 (.cells #[.int .u8 3] 5))
  have HX := iC.mk (jG (o := .cells #[.int .u8 3] 5) hX0)
  have HW1 := iC.mk (show w0.alloc (.cells #[.int .u8 3] 5) = w0.alloc (.cells #[.int .u8 3] 5) from rfl)
  clear hb1 hB0 hX0
  go_upto_region 4 with fail
  clear z0 z1 z2 z3 z4 z5 z6 z7 z8 z9 y0 y1 y2 y3 y4 y5 y6 y7 y8 y9
  obtain ⟨w1, hw1⟩ : ∃ x, x = w0.alloc (.cells #[.int .u8 3] 5) := ⟨_, rfl⟩
  rw [← hw1] at HO HB HX ⊢
  clear HW1
  have HW1 := iC.mk hw1
  clear hw1
  obtain ⟨L1, hL⟩ : ∃ l, l = [(3 : Int)] := ⟨_, rfl⟩
  have hn1 : L1.length ≤ 1 := by rw [hL]; simp
  rw [← hL] at HO
  have HL1 := iC.mk hL
  clear hL
  obtain ⟨z0, z1, z2, z3, z4, z5, z6, z7, z8, z9, y0, y1, y2, y3, y4, y5, y6, y7, y8, y9⟩ := ten HX.out
  have hcall := kR (fun k => w.heap.size < k) (.slice (some ⟨w0.heap.size, 0, none⟩) 1 1) L1 (a1) (IntKind.u64.wrap a1) 4 4 w w1 (by first | rfl | (rw [wrap_u64]; omega)) rfl (by omega) (by omega) HB.out HO.out
  go_wp2_with fail
  go_at_call 57
  (with_reducible refine hcall.mono ?_)
  clear hcall z0 z1 z2 z3 z4 z5 z6 z7 z8 z9 y0 y1 y2 y3 y4 y5 y6 y7 y8 y9
  rintro e w2 ⟨v2, rfl, ho, hb, hk⟩
  have HO' := iC.mk (Kd.R_mono (ok' := fun k => w.heap.size < k) ho (fun k h => h.elim id (fun h => Nat.lt_of_lt_of_le (iZ HX.out) h)))
  have HX' := iC.mk (kH hk HX.out)
  have HB' := iC.mk hb
  clear ho hb hk HO HX HB
  obtain ⟨HO, HX, HB⟩ : _ ∧ _ ∧ _ := ⟨HO', HX', HB'⟩
  clear HO' HX' HB'
  obtain ⟨Ao, co, rfl⟩ := Kd.R_slice HO.out
  obtain ⟨L2, hL⟩ : ∃ l, l = L1 ++ nums (layB a1 4) := ⟨_, rfl⟩
  have hn2 : L2.length ≤ 5 := by rw [hL]; simp only [List.length_append, jD, iL]; omega
  rw [← hL] at HO ⊢
  have HL2 := iC.mk hL
  clear hL hn1
  obtain ⟨z0, z1, z2, z3, z4, z5, z6, z7, z8, z9, y0, y1, y2, y3, y4, y5, y6, y7, y8, y9⟩ := ten HX.out
  have HLX := iC.mk (show L2 = nums X from by rw [HL2.out, HL1.out, HXX.out, TL]; simp only [List.nil_append, nums_append]; rfl)
  have HP : iC (r = (nums X, 0)) := ⟨by rw [HRR.out, if_neg (by have h := congrArg List.length HLX.out; rw [jD] at h; omega)]⟩
  go_wp2_with fail
  go_ret2
  rw [HP.out]
  exact ⟨_, rfl, by rw [← HLX.out]; exact Kd.R_mono HO.out (fun _ _ => trivial), HB.out⟩
set_option maxHeartbeats 8000000 in
set_option maxRecDepth 20000 in
theorem OU (hs : jJ ⟨4, a1, a2, l3, l4, ⟨a5, l6⟩, a7, a8, l9⟩ = true) : Calls Tryd.prog 18 #[.agg #[.int .u8 4, .int .u32 a1, .int .u32 a2, .slice A3 l3.length c3, .slice A4 l4.length c4, .int .u32 a5, .slice A6 l6.length c6, .int .i64 a7, .int .i64 a8, .slice A9 l9.length c9]] w (nX w (encR ⟨4, a1, a2, l3, l4, ⟨a5, l6⟩, a7, a8, l9⟩)) := by
  obtain ⟨kk, hsk⟩ := (nS 4 a1 a2 l3 l4 a5 l6 a7 a8 l9 (pF h3 h4 h6 h9)).rounds
  rw [hs] at hsk
  have H3 := iC.mk h3; have H4 := iC.mk h4; have H6 := iC.mk h6; have H9 := iC.mk h9
  have hbw : Below w.heap.size w (w.alloc (.cells #[.int .u8 4, .int .u32 a1, .int .u32 a2, .slice A3 l3.length c3, .slice A4 l4.length c4, .int .u32 a5, .slice A6 l6.length c6, .int .i64 a7, .int .i64 a8, .slice A9 l9.length c9] 30)) := iF (Below.refl _ _) _
  have hsnd := stratumref07_Sound.calls kk 4 a1 a2 A3 c3 l3 A4 c4 l4 a5 A6 c6 l6 a7 a8 A9 c9 l9 true (w.alloc (.cells #[.int .u8 4, .int .u32 a1, .int .u32 a2, .slice A3 l3.length c3, .slice A4 l4.length c4, .int .u32 a5, .slice A6 l6.length c6, .int .i64 a7, .int .i64 a8, .slice A9 l9.length c9] 30)) (Kd.C_below h3 hbw) d3 (Kd.C_below h4 hbw) d4 (Kd.C_below h6 hbw) d6 (Kd.C_below h9 hbw) d9 hsk
  have HS := iC.mk hs
  unfold encR
  rw [if_pos HS.out]
  obtain ⟨X, hX⟩ : ∃ X : List UInt8, X = recE ⟨4, a1, a2, l3, l4, ⟨a5, l6⟩, a7, a8, l9⟩ := ⟨_, rfl⟩
  rw [← hX]
  have HXX := iC.mk hX
  obtain ⟨r, hr⟩ : ∃ r : List Int × Int, r = (if 60000 < X.length then ([], 3) else (nums X, 0)) := ⟨_, rfl⟩
  rw [← hr]
  have HRR := iC.mk hr
  clear hr hs hX hsk hbw h3 h4 h6 h9
  go_enter Tryd.func18, Tryd.ntmps18
  go_wp2_with fail
  go_at_call 20
  (with_reducible refine hsnd.mono ?_)
  clear hsnd
  rintro e w0 ⟨rfl, hb1⟩
  have hB0 : Below w.heap.size w w0 := iI (iF (Below.refl _ _) _) hb1
  have hX0 : w0.heap[w.heap.size]? = some (.cells #[.int .u8 4, .int .u32 a1, .int .u32 a2, .slice A3 l3.length c3, .slice A4 l4.length c4, .int .u32 a5, .slice A6 l6.length c6, .int .i64 a7, .int .i64 a8, .slice A9 l9.length c9] 30 (0, 0)) := iK hb1 (iT rfl)
  obtain ⟨z0, z1, z2, z3, z4, z5, z6, z7, z8, z9, y0, y1, y2, y3, y4, y5, y6, y7, y8, y9⟩ := ten hX0
  have HO := iC.mk (J5 w0 w.heap.size 4 w.heap.size hB0.size (iZ hX0))
  have HB := iC.mk (iF hB0 (.cells #[.int .u8 4] 5))
  have HX := iC.mk (jG (o := .cells #[.int .u8 4] 5) hX0)
  have HW1 := iC.mk (show w0.alloc (.cells #[.int .u8 4] 5) = w0.alloc (.cells #[.int .u8 4] 5) from rfl)
  clear hb1 hB0 hX0
  go_upto_region 4 with fail
  clear z0 z1 z2 z3 z4 z5 z6 z7 z8 z9 y0 y1 y2 y3 y4 y5 y6 y7 y8 y9
  obtain ⟨w1, hw1⟩ : ∃ x, x = w0.alloc (.cells #[.int .u8 4] 5) := ⟨_, rfl⟩
  rw [← hw1] at HO HB HX ⊢
  clear HW1
  have HW1 := iC.mk hw1
  clear hw1
  obtain ⟨L1, hL⟩ : ∃ l, l = [(4 : Int)] := ⟨_, rfl⟩
  have hn1 : L1.length ≤ 1 := by rw [hL]; simp
  rw [← hL] at HO
  have HL1 := iC.mk hL
  clear hL
  obtain ⟨z0, z1, z2, z3, z4, z5, z6, z7, z8, z9, y0, y1, y2, y3, y4, y5, y6, y7, y8, y9⟩ := ten HX.out
  have hcall := kR (fun k => w.heap.size < k) (.slice (some ⟨w0.heap.size, 0, none⟩) 1 1) L1 (a1) (IntKind.u64.wrap a1) 4 4 w w1 (by first | rfl | (rw [wrap_u64]; omega)) rfl (by omega) (by omega) HB.out HO.out
  go_wp2_with fail
  go_at_call 57
  (with_reducible refine hcall.mono ?_)
  clear hcall z0 z1 z2 z3 z4 z5 z6 z7 z8 z9 y0 y1 y2 y3 y4 y5 y6 y7 y8 y9
  rintro e w2 ⟨v2, rfl, ho, hb, hk⟩
  have HO' := iC.mk (Kd.R_mono (ok' := fun k => w.heap.size < k) ho (fun k h => h.elim id (fun h => Nat.lt_of_lt_of_le (iZ HX.out) h)))
  have HX' := iC.mk (kH hk HX.out)
  have HB' := iC.mk hb
  clear ho hb hk HO HX HB
  obtain ⟨HO, HX, HB⟩ : _ ∧ _ ∧ _ := ⟨HO', HX', HB'⟩
  clear HO' HX' HB'
  obtain ⟨Ao, co, rfl⟩ := Kd.R_slice HO.out
  obtain ⟨L2, hL⟩ : ∃ l, l = L1 ++ nums (layB a1 4) := ⟨_, rfl⟩
  have hn2 : L2.length ≤ 5 := by rw [hL]; simp only [List.length_append, jD, iL]; omega
  rw [← hL] at HO ⊢
  have HL2 := iC.mk hL
  clear hL hn1
  obtain ⟨z0, z1, z2, z3, z4, z5, z6, z7, z8, z9, y0, y1, y2, y3, y4, y5, y6, y7, y8, y9⟩ := ten HX.out
  have HLX := iC.mk (show L2 = nums X from by rw [HL2.out, HL1.out, HXX.out, RH]; simp only [List.nil_append, nums_append]; rfl)
  have HP : iC (r = (nums X, 0)) := ⟨by rw [HRR.out, if_neg (by have h := congrArg List.length HLX.out; rw [jD] at h; omega)]⟩
  go_wp2_with fail
  go_ret2
  rw [HP.out]
  exact ⟨_, rfl, by rw [← HLX.out]; exact Kd.R_mono HO.out (fun _ _ => trivial), HB.out⟩
set_option maxHeartbeats 8000000 in
set_option maxRecDepth 20000 in
theorem NV (hs : jJ ⟨5, a1, a2, l3, l4, ⟨a5, l6⟩, a7, a8, l9⟩ = true) : Calls Tryd.prog 18 #[.agg #[.int .u8 5, .int .u32 a1, .int .u32 a2, .slice A3 l3.length c3, .slice A4 l4.length c4, .int .u32 a5, .slice A6 l6.length c6, .int .i64 a7, .int .i64 a8, .slice A9 l9.length c9]] w (nX w (encR ⟨5, a1, a2, l3, l4, ⟨a5, l6⟩, a7, a8, l9⟩)) := by
  obtain ⟨kk, hsk⟩ := (nS 5 a1 a2 l3 l4 a5 l6 a7 a8 l9 (pF h3 h4 h6 h9)).rounds
  rw [hs] at hsk
  have H3 := iC.mk h3; have H4 := iC.mk h4; have H6 := iC.mk h6; have H9 := iC.mk h9
  have hbw : Below w.heap.size w (w.alloc (.cells #[.int .u8 5, .int .u32 a1, .int .u32 a2, .slice A3 l3.length c3, .slice A4 l4.length c4, .int .u32 a5, .slice A6 l6.length c6, .int .i64 a7, .int .i64 a8, .slice A9 l9.length c9] 30)) := iF (Below.refl _ _) _
  have hsnd := stratumref07_Sound.calls kk 5 a1 a2 A3 c3 l3 A4 c4 l4 a5 A6 c6 l6 a7 a8 A9 c9 l9 true (w.alloc (.cells #[.int .u8 5, .int .u32 a1, .int .u32 a2, .slice A3 l3.length c3, .slice A4 l4.length c4, .int .u32 a5, .slice A6 l6.length c6, .int .i64 a7, .int .i64 a8, .slice A9 l9.length c9] 30)) (Kd.C_below h3 hbw) d3 (Kd.C_below h4 hbw) d4 (Kd.C_below h6 hbw) d6 (Kd.C_below h9 hbw) d9 hsk
  have HS := iC.mk hs
  unfold encR
  rw [if_pos HS.out]
  obtain ⟨X, hX⟩ : ∃ X : List UInt8, X = recE ⟨5, a1, a2, l3, l4, ⟨a5, l6⟩, a7, a8, l9⟩ := ⟨_, rfl⟩
  rw [← hX]
  have HXX := iC.mk hX
  obtain ⟨r, hr⟩ : ∃ r : List Int × Int, r = (if 60000 < X.length then ([], 3) else (nums X, 0)) := ⟨_, rfl⟩
  rw [← hr]
  have HRR := iC.mk hr
  clear hr hs hX hsk hbw h3 h4 h6 h9
  go_enter Tryd.func18, Tryd.ntmps18
  go_wp2_with fail
  go_at_call 20
  (with_reducible refine hsnd.mono ?_)
  clear hsnd
  rintro e w0 ⟨rfl, hb1⟩
  have hB0 : Below w.heap.size w w0 := iI (iF (Below.refl _ _) _) hb1
  have hX0 : w0.heap[w.heap.size]? = some (.cells #[.int .u8 5, .int .u32 a1, .int .u32 a2, .slice A3 l3.length c3, .slice A4 l4.length c4, .int .u32 a5, .slice A6 l6.length c6, .int .i64 a7, .int .i64 a8, .slice A9 l9.length c9] 30 (0, 0)) := iK hb1 (iT rfl)
  obtain ⟨z0, z1, z2, z3, z4, z5, z6, z7, z8, z9, y0, y1, y2, y3, y4, y5, y6, y7, y8, y9⟩ := ten hX0
  have HO := iC.mk (J5 w0 w.heap.size 5 w.heap.size hB0.size (iZ hX0))
  have HB := iC.mk (iF hB0 (.cells #[.int .u8 5] 5))
  have HX := iC.mk (jG (o := .cells #[.int .u8 5] 5) hX0)
  have HW1 := iC.mk (show w0.alloc (.cells #[.int .u8 5] 5) = w0.alloc (.cells #[.int .u8 5] 5) from rfl)
  clear hb1 hB0 hX0
  go_upto_region 4 with fail
  clear z0 z1 z2 z3 z4 z5 z6 z7 z8 z9 y0 y1 y2 y3 y4 y5 y6 y7 y8 y9
  obtain ⟨w1, hw1⟩ : ∃ x, x = w0.alloc (.cells #[.int .u8 5] 5) := ⟨_, rfl⟩
  rw [← hw1] at HO HB HX ⊢
  clear HW1
  have HW1 := iC.mk hw1
  clear hw1
  obtain ⟨L1, hL⟩ : ∃ l, l = [(5 : Int)] := ⟨_, rfl⟩
  have hn1 : L1.length ≤ 1 := by rw [hL]; simp
  rw [← hL] at HO
  have HL1 := iC.mk hL
  clear hL
  obtain ⟨z0, z1, z2, z3, z4, z5, z6, z7, z8, z9, y0, y1, y2, y3, y4, y5, y6, y7, y8, y9⟩ := ten HX.out
  have hcall := kR (fun k => w.heap.size < k) (.slice (some ⟨w0.heap.size, 0, none⟩) 1 1) L1 (a1) (IntKind.u64.wrap a1) 4 4 w w1 (by first | rfl | (rw [wrap_u64]; omega)) rfl (by omega) (by omega) HB.out HO.out
  go_wp2_with fail
  go_at_call 57
  (with_reducible refine hcall.mono ?_)
  clear hcall z0 z1 z2 z3 z4 z5 z6 z7 z8 z9 y0 y1 y2 y3 y4 y5 y6 y7 y8 y9
  rintro e w2 ⟨v2, rfl, ho, hb, hk⟩
  have HO' := iC.mk (Kd.R_mono (ok' := fun k => w.heap.size < k) ho (fun k h => h.elim id (fun h => Nat.lt_of_lt_of_le (iZ HX.out) h)))
  have HX' := iC.mk (kH hk HX.out)
  have HB' := iC.mk hb
  clear ho hb hk HO HX HB
  obtain ⟨HO, HX, HB⟩ : _ ∧ _ ∧ _ := ⟨HO', HX', HB'⟩
  clear HO' HX' HB'
  obtain ⟨Ao, co, rfl⟩ := Kd.R_slice HO.out
  obtain ⟨L2, hL⟩ : ∃ l, l = L1 ++ nums (layB a1 4) := ⟨_, rfl⟩
  have hn2 : L2.length ≤ 5 := by rw [hL]; simp only [List.length_append, jD, iL]; omega
  rw [← hL] at HO ⊢
  have HL2 := iC.mk hL
  clear hL hn1
  obtain ⟨z0, z1, z2, z3, z4, z5, z6, z7, z8, z9, y0, y1, y2, y3, y4, y5, y6, y7, y8, y9⟩ := ten HX.out
  have HLX := iC.mk (show L2 = nums X from by rw [HL2.out, HL1.out, HXX.out, RX]; simp only [List.nil_append, nums_append]; rfl)
  have HP : iC (r = (nums X, 0)) := ⟨by rw [HRR.out, if_neg (by have h := congrArg List.length HLX.out; rw [jD] at h; omega)]⟩
  go_wp2_with fail
  go_ret2
  rw [HP.out]
  exact ⟨_, rfl, by rw [← HLX.out]; exact Kd.R_mono HO.out (fun _ _ => trivial), HB.out⟩
set_option maxHeartbeats 8000000 in
set_option maxRecDepth 20000 in
theorem NZ (hs : jJ ⟨7, a1, a2, l3, l4, ⟨a5, l6⟩, a7, a8, l9⟩ = true) : Calls Tryd.prog 18 #[.agg #[.int .u8 7, .int .u32 a1, .int .u32 a2, .slice A3 l3.length c3, .slice A4 l4.length c4, .int .u32 a5, .slice A6 l6.length c6, .int .i64 a7, .int .i64 a8, .slice A9 l9.length c9]] w (nX w (encR ⟨7, a1, a2, l3, l4, ⟨a5, l6⟩, a7, a8, l9⟩)) := by
  obtain ⟨kk, hsk⟩ := (nS 7 a1 a2 l3 l4 a5 l6 a7 a8 l9 (pF h3 h4 h6 h9)).rounds
  rw [hs] at hsk
  have H3 := iC.mk h3; have H4 := iC.mk h4; have H6 := iC.mk h6; have H9 := iC.mk h9
  have hbw : Below w.heap.size w (w.alloc (.cells #[.int .u8 7, .int .u32 a1, .int .u32 a2, .slice A3 l3.length c3, .slice A4 l4.length c4, .int .u32 a5, .slice A6 l6.length c6, .int .i64 a7, .int .i64 a8, .slice A9 l9.length c9] 30)) := iF (Below.refl _ _) _
  have hsnd := stratumref07_Sound.calls kk 7 a1 a2 A3 c3 l3 A4 c4 l4 a5 A6 c6 l6 a7 a8 A9 c9 l9 true (w.alloc (.cells #[.int .u8 7, .int .u32 a1, .int .u32 a2, .slice A3 l3.length c3, .slice A4 l4.length c4, .int .u32 a5, .slice A6 l6.length c6, .int .i64 a7, .int .i64 a8, .slice A9 l9.length c9] 30)) (Kd.C_below h3 hbw) d3 (Kd.C_below h4 hbw) d4 (Kd.C_below h6 hbw) d6 (Kd.C_below h9 hbw) d9 hsk
  have HS := iC.mk hs
  have q9 : (jR l9).length ≤ 25040004 := by
    have h := HS.out
    rw [O3] at h
    simp only [Bool.and_eq_true, decide_eq_true_eq] at h
    exact pX _ h.1.1.1.1.1.1 (by have := h.1.1.1.1.1.2; omega)
  unfold encR
  rw [if_pos HS.out]
  obtain ⟨X, hX⟩ : ∃ X : List UInt8, X = recE ⟨7, a1, a2, l3, l4, ⟨a5, l6⟩, a7, a8, l9⟩ := ⟨_, rfl⟩
  rw [← hX]
  have HXX := iC.mk hX
  obtain ⟨r, hr⟩ : ∃ r : List Int × Int, r = (if 60000 < X.length then ([], 3) else (nums X, 0)) := ⟨_, rfl⟩
  rw [← hr]
  have HRR := iC.mk hr
  clear hr hs hX hsk hbw h3 h4 h6 h9
  go_enter Tryd.func18, Tryd.ntmps18
  go_wp2_with fail
  go_at_call 20
  (with_reducible refine hsnd.mono ?_)
  clear hsnd
  rintro e w0 ⟨rfl, hb1⟩
  have hB0 : Below w.heap.size w w0 := iI (iF (Below.refl _ _) _) hb1
  have hX0 : w0.heap[w.heap.size]? = some (.cells #[.int .u8 7, .int .u32 a1, .int .u32 a2, .slice A3 l3.length c3, .slice A4 l4.length c4, .int .u32 a5, .slice A6 l6.length c6, .int .i64 a7, .int .i64 a8, .slice A9 l9.length c9] 30 (0, 0)) := iK hb1 (iT rfl)
  obtain ⟨z0, z1, z2, z3, z4, z5, z6, z7, z8, z9, y0, y1, y2, y3, y4, y5, y6, y7, y8, y9⟩ := ten hX0
  have HO := iC.mk (J5 w0 w.heap.size 7 w.heap.size hB0.size (iZ hX0))
  have HB := iC.mk (iF hB0 (.cells #[.int .u8 7] 5))
  have HX := iC.mk (jG (o := .cells #[.int .u8 7] 5) hX0)
  have HW1 := iC.mk (show w0.alloc (.cells #[.int .u8 7] 5) = w0.alloc (.cells #[.int .u8 7] 5) from rfl)
  clear hb1 hB0 hX0
  go_upto_region 4 with fail
  clear z0 z1 z2 z3 z4 z5 z6 z7 z8 z9 y0 y1 y2 y3 y4 y5 y6 y7 y8 y9
  obtain ⟨w1, hw1⟩ : ∃ x, x = w0.alloc (.cells #[.int .u8 7] 5) := ⟨_, rfl⟩
  rw [← hw1] at HO HB HX ⊢
  clear HW1
  have HW1 := iC.mk hw1
  clear hw1
  obtain ⟨L1, hL⟩ : ∃ l, l = [(7 : Int)] := ⟨_, rfl⟩
  have hn1 : L1.length ≤ 1 := by rw [hL]; simp
  rw [← hL] at HO
  have HL1 := iC.mk hL
  clear hL
  obtain ⟨z0, z1, z2, z3, z4, z5, z6, z7, z8, z9, y0, y1, y2, y3, y4, y5, y6, y7, y8, y9⟩ := ten HX.out
  have hcall := kR (fun k => w.heap.size < k) (.slice (some ⟨w0.heap.size, 0, none⟩) 1 1) L1 (a1) (IntKind.u64.wrap a1) 4 4 w w1 (by first | rfl | (rw [wrap_u64]; omega)) rfl (by omega) (by omega) HB.out HO.out
  go_wp2_with fail
  go_at_call 57
  (with_reducible refine hcall.mono ?_)
  clear hcall z0 z1 z2 z3 z4 z5 z6 z7 z8 z9 y0 y1 y2 y3 y4 y5 y6 y7 y8 y9
  rintro e w2 ⟨v2, rfl, ho, hb, hk⟩
  have HO' := iC.mk (Kd.R_mono (ok' := fun k => w.heap.size < k) ho (fun k h => h.elim id (fun h => Nat.lt_of_lt_of_le (iZ HX.out) h)))
  have HX' := iC.mk (kH hk HX.out)
  have HB' := iC.mk hb
  clear ho hb hk HO HX HB
  obtain ⟨HO, HX, HB⟩ : _ ∧ _ ∧ _ := ⟨HO', HX', HB'⟩
  clear HO' HX' HB'
  obtain ⟨Ao, co, rfl⟩ := Kd.R_slice HO.out
  obtain ⟨L2, hL⟩ : ∃ l, l = L1 ++ nums (layB a1 4) := ⟨_, rfl⟩
  have hn2 : L2.length ≤ 5 := by rw [hL]; simp only [List.length_append, jD, iL]; omega
  rw [← hL] at HO ⊢
  have HL2 := iC.mk hL
  clear hL hn1
  obtain ⟨z0, z1, z2, z3, z4, z5, z6, z7, z8, z9, y0, y1, y2, y3, y4, y5, y6, y7, y8, y9⟩ := ten HX.out
  have hcall := kR (fun k => w.heap.size < k) _ L2 (a7) (IntKind.u64.wrap a7) 4 4 w w2 (by first | rfl | (rw [wrap_u64]; omega)) rfl (by omega) (by omega) HB.out HO.out
  go_wp2_with fail
  go_at_call 57
  (with_reducible refine hcall.mono ?_)
  clear hcall z0 z1 z2 z3 z4 z5 z6 z7 z8 z9 y0 y1 y2 y3 y4 y5 y6 y7 y8 y9
  rintro e w3 ⟨v3, rfl, ho, hb, hk⟩
  have HO' := iC.mk (Kd.R_mono (ok' := fun k => w.heap.size < k) ho (fun k h => h.elim id (fun h => Nat.lt_of_lt_of_le (iZ HX.out) h)))
  have HX' := iC.mk (kH hk HX.out)
  have HB' := iC.mk hb
  clear ho hb hk HO HX HB
  obtain ⟨HO, HX, HB⟩ : _ ∧ _ ∧ _ := ⟨HO', HX', HB'⟩
  clear HO' HX' HB'
  obtain ⟨Ao, co, rfl⟩ := Kd.R_slice HO.out
  obtain ⟨L3, hL⟩ : ∃ l, l = L2 ++ nums (layB a7 4) := ⟨_, rfl⟩
  have hn3 : L3.length ≤ 9 := by rw [hL]; simp only [List.length_append, jD, iL]; omega
  rw [← hL] at HO ⊢
  have HL3 := iC.mk hL
  clear hL hn2
  obtain ⟨z0, z1, z2, z3, z4, z5, z6, z7, z8, z9, y0, y1, y2, y3, y4, y5, y6, y7, y8, y9⟩ := ten HX.out
  have hcall := kR (fun k => w.heap.size < k) _ L3 (a8) (IntKind.u64.wrap a8) 4 4 w w3 (by first | rfl | (rw [wrap_u64]; omega)) rfl (by omega) (by omega) HB.out HO.out
  go_wp2_with fail
  go_at_call 57
  (with_reducible refine hcall.mono ?_)
  clear hcall z0 z1 z2 z3 z4 z5 z6 z7 z8 z9 y0 y1 y2 y3 y4 y5 y6 y7 y8 y9
  rintro e w4 ⟨v4, rfl, ho, hb, hk⟩
  have HO' := iC.mk (Kd.R_mono (ok' := fun k => w.heap.size < k) ho (fun k h => h.elim id (fun h => Nat.lt_of_lt_of_le (iZ HX.out) h)))
  have HX' := iC.mk (kH hk HX.out)
  have HB' := iC.mk hb
  clear ho hb hk HO HX HB
  obtain ⟨HO, HX, HB⟩ : _ ∧ _ ∧ _ := ⟨HO', HX', HB'⟩
  clear HO' HX' HB'
  obtain ⟨Ao, co, rfl⟩ := Kd.R_slice HO.out
  obtain ⟨L4, hL⟩ : ∃ l, l = L3 ++ nums (layB a8 4) := ⟨_, rfl⟩
  have hn4 : L4.length ≤ 13 := by rw [hL]; simp only [List.length_append, jD, iL]; omega
  rw [← hL] at HO ⊢
  have HL4 := iC.mk hL
  clear hL hn3
  obtain ⟨z0, z1, z2, z3, z4, z5, z6, z7, z8, z9, y0, y1, y2, y3, y4, y5, y6, y7, y8, y9⟩ := ten HX.out
  have hcall := uF (fun k => w.heap.size < k) _ L4 A9 c9 l9 w w4 (by omega) HB.out HO.out (fun k h => Nat.le_of_lt h) H9.out d9
  go_wp2_with fail
  go_at_call 60
  (with_reducible refine hcall.mono ?_)
  clear hcall z0 z1 z2 z3 z4 z5 z6 z7 z8 z9 y0 y1 y2 y3 y4 y5 y6 y7 y8 y9
  rintro e w5 ⟨v5, rfl, ho, hb, hk⟩
  have HO' := iC.mk (Kd.R_mono (ok' := fun k => w.heap.size < k) ho (fun k h => h.elim id (fun h => Nat.lt_of_lt_of_le (iZ HX.out) h)))
  have HX' := iC.mk (kH hk HX.out)
  have HB' := iC.mk hb
  clear ho hb hk HO HX HB
  obtain ⟨HO, HX, HB⟩ : _ ∧ _ ∧ _ := ⟨HO', HX', HB'⟩
  clear HO' HX' HB'
  obtain ⟨Ao, co, rfl⟩ := Kd.R_slice HO.out
  obtain ⟨L5, hL⟩ : ∃ l, l = L4 ++ nums (jR l9) := ⟨_, rfl⟩
  have hn5 : L5.length ≤ 25040017 := by rw [hL]; simp only [List.length_append, jD, iL]; omega
  rw [← hL] at HO ⊢
  have HL5 := iC.mk hL
  clear hL hn4
  obtain ⟨z0, z1, z2, z3, z4, z5, z6, z7, z8, z9, y0, y1, y2, y3, y4, y5, y6, y7, y8, y9⟩ := ten HX.out
  have HLX := iC.mk (show L5 = nums X from by rw [HL5.out, HL4.out, HL3.out, HL2.out, HL1.out, HXX.out, TK]; simp only [List.nil_append, nums_append]; rfl)
  by_cases hq : (60000 : Int) < (L5.length : Int)
  · have HP : iC (r = ([], 3)) := ⟨by rw [HRR.out, if_pos (by rw [HLX.out, jD] at hq; omega)]⟩
    go_wp2_with fail
    go_ret2
    rw [HP.out]
    exact ⟨_, rfl, Kd.R_nil _ _ _ _ _, HB.out⟩
  · have HP : iC (r = (nums X, 0)) := ⟨by rw [HRR.out, if_neg (by rw [HLX.out, jD] at hq; omega)]⟩
    go_wp2_with fail
    go_ret2
    rw [HP.out]
    exact ⟨_, rfl, by rw [← HLX.out]; exact Kd.R_mono HO.out (fun _ _ => trivial), HB.out⟩
set_option maxHeartbeats 8000000 in
set_option maxRecDepth 20000 in
theorem OB (hs : jJ ⟨6, a1, a2, l3, l4, ⟨a5, l6⟩, a7, a8, l9⟩ = true) : Calls Tryd.prog 18 #[.agg #[.int .u8 6, .int .u32 a1, .int .u32 a2, .slice A3 l3.length c3, .slice A4 l4.length c4, .int .u32 a5, .slice A6 l6.length c6, .int .i64 a7, .int .i64 a8, .slice A9 l9.length c9]] w (nX w (encR ⟨6, a1, a2, l3, l4, ⟨a5, l6⟩, a7, a8, l9⟩)) := by
  obtain ⟨kk, hsk⟩ := (nS 6 a1 a2 l3 l4 a5 l6 a7 a8 l9 (pF h3 h4 h6 h9)).rounds
  rw [hs] at hsk
  have H3 := iC.mk h3; have H4 := iC.mk h4; have H6 := iC.mk h6; have H9 := iC.mk h9
  have hbw : Below w.heap.size w (w.alloc (.cells #[.int .u8 6, .int .u32 a1, .int .u32 a2, .slice A3 l3.length c3, .slice A4 l4.length c4, .int .u32 a5, .slice A6 l6.length c6, .int .i64 a7, .int .i64 a8, .slice A9 l9.length c9] 30)) := iF (Below.refl _ _) _
  have hsnd := stratumref07_Sound.calls kk 6 a1 a2 A3 c3 l3 A4 c4 l4 a5 A6 c6 l6 a7 a8 A9 c9 l9 true (w.alloc (.cells #[.int .u8 6, .int .u32 a1, .int .u32 a2, .slice A3 l3.length c3, .slice A4 l4.length c4, .int .u32 a5, .slice A6 l6.length c6, .int .i64 a7, .int .i64 a8, .slice A9 l9.length c9] 30)) (Kd.C_below h3 hbw) d3 (Kd.C_below h4 hbw) d4 (Kd.C_below h6 hbw) d6 (Kd.C_below h9 hbw) d9 hsk
  have HS := iC.mk hs
  have q6 : l6.length ≤ 40 := by
    have h := HS.out
    rw [P7, Bool.and_eq_true, Bool.and_eq_true, Bool.and_eq_true] at h
    have := of_decide_eq_true h.1.1.2
    omega
  unfold encR
  rw [if_pos HS.out]
  obtain ⟨X, hX⟩ : ∃ X : List UInt8, X = recE ⟨6, a1, a2, l3, l4, ⟨a5, l6⟩, a7, a8, l9⟩ := ⟨_, rfl⟩
  rw [← hX]
  have HXX := iC.mk hX
  obtain ⟨r, hr⟩ : ∃ r : List Int × Int, r = (if 60000 < X.length then ([], 3) else (nums X, 0)) := ⟨_, rfl⟩
  rw [← hr]
  have HRR := iC.mk hr
  clear hr hs hX hsk hbw h3 h4 h6 h9
  go_enter Tryd.func18, Tryd.ntmps18
  go_wp2_with fail
  go_at_call 20
  (with_reducible refine hsnd.mono ?_)
  clear hsnd
  rintro e w0 ⟨rfl, hb1⟩
  have hB0 : Below w.heap.size w w0 := iI (iF (Below.refl _ _) _) hb1
  have hX0 : w0.heap[w.heap.size]? = some (.cells #[.int .u8 6, .int .u32 a1, .int .u32 a2, .slice A3 l3.length c3, .slice A4 l4.length c4, .int .u32 a5, .slice A6 l6.length c6, .int .i64 a7, .int .i64 a8, .slice A9 l9.length c9] 30 (0, 0)) := iK hb1 (iT rfl)
  obtain ⟨z0, z1, z2, z3, z4, z5, z6, z7, z8, z9, y0, y1, y2, y3, y4, y5, y6, y7, y8, y9⟩ := ten hX0
  have HO := iC.mk (J5 w0 w.heap.size 6 w.heap.size hB0.size (iZ hX0))
  have HB := iC.mk (iF hB0 (.cells #[.int .u8 6] 5))
  have HX := iC.mk (jG (o := .cells #[.int .u8 6] 5) hX0)
  have HW1 := iC.mk (show w0.alloc (.cells #[.int .u8 6] 5) = w0.alloc (.cells #[.int .u8 6] 5) from rfl)
  clear hb1 hB0 hX0
  go_upto_region 4 with fail
  clear z0 z1 z2 z3 z4 z5 z6 z7 z8 z9 y0 y1 y2 y3 y4 y5 y6 y7 y8 y9
  obtain ⟨w1, hw1⟩ : ∃ x, x = w0.alloc (.cells #[.int .u8 6] 5) := ⟨_, rfl⟩
  rw [← hw1] at HO HB HX ⊢
  clear HW1
  have HW1 := iC.mk hw1
  clear hw1
  obtain ⟨L1, hL⟩ : ∃ l, l = [(6 : Int)] := ⟨_, rfl⟩
  have hn1 : L1.length ≤ 1 := by rw [hL]; simp
  rw [← hL] at HO
  have HL1 := iC.mk hL
  clear hL
  obtain ⟨z0, z1, z2, z3, z4, z5, z6, z7, z8, z9, y0, y1, y2, y3, y4, y5, y6, y7, y8, y9⟩ := ten HX.out
  have hcall := kR (fun k => w.heap.size < k) (.slice (some ⟨w0.heap.size, 0, none⟩) 1 1) L1 (a1) (IntKind.u64.wrap a1) 4 4 w w1 (by first | rfl | (rw [wrap_u64]; omega)) rfl (by omega) (by omega) HB.out HO.out
  go_wp2_with fail
  go_at_call 57
  (with_reducible refine hcall.mono ?_)
  clear hcall z0 z1 z2 z3 z4 z5 z6 z7 z8 z9 y0 y1 y2 y3 y4 y5 y6 y7 y8 y9
  rintro e w2 ⟨v2, rfl, ho, hb, hk⟩
  have HO' := iC.mk (Kd.R_mono (ok' := fun k => w.heap.size < k) ho (fun k h => h.elim id (fun h => Nat.lt_of_lt_of_le (iZ HX.out) h)))
  have HX' := iC.mk (kH hk HX.out)
  have HB' := iC.mk hb
  clear ho hb hk HO HX HB
  obtain ⟨HO, HX, HB⟩ : _ ∧ _ ∧ _ := ⟨HO', HX', HB'⟩
  clear HO' HX' HB'
  obtain ⟨Ao, co, rfl⟩ := Kd.R_slice HO.out
  obtain ⟨L2, hL⟩ : ∃ l, l = L1 ++ nums (layB a1 4) := ⟨_, rfl⟩
  have hn2 : L2.length ≤ 5 := by rw [hL]; simp only [List.length_append, jD, iL]; omega
  rw [← hL] at HO ⊢
  have HL2 := iC.mk hL
  clear hL hn1
  obtain ⟨z0, z1, z2, z3, z4, z5, z6, z7, z8, z9, y0, y1, y2, y3, y4, y5, y6, y7, y8, y9⟩ := ten HX.out
  have hcall := kR (fun k => w.heap.size < k) _ L2 (a5) (IntKind.u64.wrap a5) 4 4 w w2 (by first | rfl | (rw [wrap_u64]; omega)) rfl (by omega) (by omega) HB.out HO.out
  go_wp2_with fail
  go_at_call 57
  (with_reducible refine hcall.mono ?_)
  clear hcall z0 z1 z2 z3 z4 z5 z6 z7 z8 z9 y0 y1 y2 y3 y4 y5 y6 y7 y8 y9
  rintro e w3 ⟨v3, rfl, ho, hb, hk⟩
  have HO' := iC.mk (Kd.R_mono (ok' := fun k => w.heap.size < k) ho (fun k h => h.elim id (fun h => Nat.lt_of_lt_of_le (iZ HX.out) h)))
  have HX' := iC.mk (kH hk HX.out)
  have HB' := iC.mk hb
  clear ho hb hk HO HX HB
  obtain ⟨HO, HX, HB⟩ : _ ∧ _ ∧ _ := ⟨HO', HX', HB'⟩
  clear HO' HX' HB'
  obtain ⟨Ao, co, rfl⟩ := Kd.R_slice HO.out
  obtain ⟨L3, hL⟩ : ∃ l, l = L2 ++ nums (layB a5 4) := ⟨_, rfl⟩
  have hn3 : L3.length ≤ 9 := by rw [hL]; simp only [List.length_append, jD, iL]; omega
  rw [← hL] at HO ⊢
  have HL3 := iC.mk hL
  clear hL hn2
  obtain ⟨z0, z1, z2, z3, z4, z5, z6, z7, z8, z9, y0, y1, y2, y3, y4, y5, y6, y7, y8, y9⟩ := ten HX.out
  have hcall := kR (fun k => w.heap.size < k) _ L3 ((l6.length : Int)) ((l6.length : Int)) 1 1 w w3 (by first | rfl | (rw [wrap_u64]; omega)) rfl (by omega) (by omega) HB.out HO.out
  go_wp2_with fail
  go_at_call 57
  (with_reducible refine hcall.mono ?_)
  clear hcall z0 z1 z2 z3 z4 z5 z6 z7 z8 z9 y0 y1 y2 y3 y4 y5 y6 y7 y8 y9
  rintro e w4 ⟨v4, rfl, ho, hb, hk⟩
  have HO' := iC.mk (Kd.R_mono (ok' := fun k => w.heap.size < k) ho (fun k h => h.elim id (fun h => Nat.lt_of_lt_of_le (iZ HX.out) h)))
  have HX' := iC.mk (kH hk HX.out)
  have HB' := iC.mk hb
  clear ho hb hk HO HX HB
  obtain ⟨HO, HX, HB⟩ : _ ∧ _ ∧ _ := ⟨HO', HX', HB'⟩
  clear HO' HX' HB'
  obtain ⟨Ao, co, rfl⟩ := Kd.R_slice HO.out
  obtain ⟨L4, hL⟩ : ∃ l, l = L3 ++ nums (layB (l6.length : Int) 1) := ⟨_, rfl⟩
  have hn4 : L4.length ≤ 10 := by rw [hL]; simp only [List.length_append, jD, iL]; omega
  rw [← hL] at HO ⊢
  have HL4 := iC.mk hL
  clear hL hn3
  obtain ⟨z0, z1, z2, z3, z4, z5, z6, z7, z8, z9, y0, y1, y2, y3, y4, y5, y6, y7, y8, y9⟩ := ten HX.out
  go_wp2_with fail
  clear z0 z1 z2 z3 z4 z5 z6 z7 z8 z9 y0 y1 y2 y3 y4 y5 y6 y7 y8 y9
  go_loopg [4, 5] l6.length (fun gg s4 s5 wr => ∃ k : Nat, k ≤ l6.length ∧ l6.length - k ≤ gg ∧ s5 = .int .i64 k ∧ iC (Kd.R (Kd.int .u8) 5 wr w.heap.size (fun k => w.heap.size < k) s4 (L4 ++ nums ((l6.take k).flatMap mX))) ∧ iC (Below w.heap.size w wr) ∧ iC (wr.heap[w.heap.size]? = some (.cells #[.int .u8 6, .int .u32 a1, .int .u32 a2, .slice A3 l3.length c3, .slice A4 l4.length c4, .int .u32 a5, .slice A6 l6.length c6, .int .i64 a7, .int .i64 a8, .slice A9 l9.length c9] 30 (0, 0))))
  case atStart => exact ⟨0, Nat.zero_le _, by omega, rfl, ⟨by simpa [nums] using HO.out⟩, HB, HX⟩
  case round =>
    clear HO HB HX
    obtain ⟨k, hk, hg, rfl, HO, HB, HX⟩ := hrel
    obtain ⟨Ao, co, rfl⟩ := Kd.R_slice HO.out
    by_cases hlt : k < l6.length
    · have HT := iC.mk (jZ mX z98 l6 k hlt)
      obtain ⟨w5, rfl⟩ : ∃ x : World, x = wr := ⟨_, rfl⟩
      obtain ⟨L5, hL⟩ : ∃ L, L = L4 ++ nums ((l6.take k).flatMap mX) := ⟨_, rfl⟩
      have hn5 : L5.length ≤ 210 := by rw [hL]; have h1 := nP mX l6 k; rw [rX l6] at h1; simp only [List.length_append, jD]; omega
      rw [← hL] at HO ⊢
      have HL5 := iC.mk hL
      clear hL
      obtain ⟨ad, eA, gx0, gx1⟩ := lI H6.out k (by omega) (by omega)
      cases eA
      simp only [Int.toNat_natCast] at gx0 gx1
      have hx0 := jW HB.out gx0
      have hx1 := jW HB.out gx1
      have HG := iC.mk (And.intro gx0 gx1)
      clear gx0 gx1
      have HSP := iC.mk (show jL l6 k = l6.getD k z98 from by unfold jL; rw [Int.toNat_natCast])
      generalize jL l6 k = sp at HSP hx0 hx1 HG ⊢
      obtain ⟨z0, z1, z2, z3, z4, z5, z6, z7, z8, z9, y0, y1, y2, y3, y4, y5, y6, y7, y8, y9⟩ := ten HX.out
      have hcall := kR (fun k => w.heap.size < k) _ L5 (sp.f0) (IntKind.u64.wrap sp.f0) 4 4 w w5 (by first | rfl | (rw [wrap_u64]; omega)) rfl (by omega) (by omega) HB.out HO.out
      go_wp2_with fail
      go_at_call 57
      (with_reducible refine hcall.mono ?_)
      clear hcall z0 z1 z2 z3 z4 z5 z6 z7 z8 z9 y0 y1 y2 y3 y4 y5 y6 y7 y8 y9
      rintro e w6 ⟨v6, rfl, ho, hb, hk⟩
      have HO' := iC.mk (Kd.R_mono (ok' := fun k => w.heap.size < k) ho (fun k h => h.elim id (fun h => Nat.lt_of_lt_of_le (iZ HX.out) h)))
      have HX' := iC.mk (kH hk HX.out)
      have HB' := iC.mk hb
      clear ho hb hk HO HX HB
      obtain ⟨HO, HX, HB⟩ : _ ∧ _ ∧ _ := ⟨HO', HX', HB'⟩
      clear HO' HX' HB'
      obtain ⟨Ao, co, rfl⟩ := Kd.R_slice HO.out
      obtain ⟨L6, hL⟩ : ∃ l, l = L5 ++ nums (layB sp.f0 4) := ⟨_, rfl⟩
      have hn6 : L6.length ≤ 214 := by rw [hL]; simp only [List.length_append, jD, iL]; omega
      rw [← hL] at HO ⊢
      have HL6 := iC.mk hL
      clear hL hn5
      clear hx0 hx1
      have hx0 := jW HB.out HG.out.1
      have hx1 := jW HB.out HG.out.2
      obtain ⟨z0, z1, z2, z3, z4, z5, z6, z7, z8, z9, y0, y1, y2, y3, y4, y5, y6, y7, y8, y9⟩ := ten HX.out
      have hcall := kR (fun k => w.heap.size < k) _ L6 (sp.f1) (IntKind.u64.wrap sp.f1) 1 1 w w6 (by first | rfl | (rw [wrap_u64]; omega)) rfl (by omega) (by omega) HB.out HO.out
      go_wp2_with fail
      go_at_call 57
      (with_reducible refine hcall.mono ?_)
      clear hcall z0 z1 z2 z3 z4 z5 z6 z7 z8 z9 y0 y1 y2 y3 y4 y5 y6 y7 y8 y9
      rintro e w7 ⟨v7, rfl, ho, hb, hk⟩
      have HO' := iC.mk (Kd.R_mono (ok' := fun k => w.heap.size < k) ho (fun k h => h.elim id (fun h => Nat.lt_of_lt_of_le (iZ HX.out) h)))
      have HX' := iC.mk (kH hk HX.out)
      have HB' := iC.mk hb
      clear ho hb hk HO HX HB
      obtain ⟨HO, HX, HB⟩ : _ ∧ _ ∧ _ := ⟨HO', HX', HB'⟩
      clear HO' HX' HB'
      obtain ⟨Ao, co, rfl⟩ := Kd.R_slice HO.out
      obtain ⟨L7, hL⟩ : ∃ l, l = L6 ++ nums (layB sp.f1 1) := ⟨_, rfl⟩
      have hn7 : L7.length ≤ 215 := by rw [hL]; simp only [List.length_append, jD, iL]; omega
      rw [← hL] at HO ⊢
      have HL7 := iC.mk hL
      clear hL hn6
      clear hx0 hx1
      have HE := iC.mk (show L7 = L4 ++ nums ((l6.take (k + 1)).flatMap mX) from by rw [HT.out, ← HSP.out, HL7.out, HL6.out, HL5.out]; unfold mX; simp only [nums_append, List.append_assoc])
      go_wp2_with fail
      go_roundg (l6.length - (k + 1))
      case measure => omega
      case rel => exact ⟨k + 1, by omega, by omega, by go_num, ⟨by rw [← HE.out]; exact HO.out⟩, HB, HX⟩
    · have : k = l6.length := by omega
      subst this
      obtain ⟨w5, rfl⟩ : ∃ x : World, x = wr := ⟨_, rfl⟩
      obtain ⟨L5, hL⟩ : ∃ L, L = L4 ++ nums (l6.flatMap mX) := ⟨_, rfl⟩
      rw [List.take_length] at HO ⊢
      rw [← hL] at HO ⊢
      have HL5 := iC.mk hL
      clear hL
      obtain ⟨z0, z1, z2, z3, z4, z5, z6, z7, z8, z9, y0, y1, y2, y3, y4, y5, y6, y7, y8, y9⟩ := ten HX.out
      have HLX := iC.mk (show L5 = nums X from by rw [HL5.out, HL4.out, HL3.out, HL2.out, HL1.out, HXX.out, RJ]; simp only [List.nil_append, nums_append]; rfl)
      by_cases hq : (60000 : Int) < (L5.length : Int)
      · have HP : iC (r = ([], 3)) := ⟨by rw [HRR.out, if_pos (by rw [HLX.out, jD] at hq; omega)]⟩
        go_wp2_with fail
        go_ret2
        rw [HP.out]
        exact ⟨_, rfl, Kd.R_nil _ _ _ _ _, HB.out⟩
      · have HP : iC (r = (nums X, 0)) := ⟨by rw [HRR.out, if_neg (by rw [HLX.out, jD] at hq; omega)]⟩
        go_wp2_with fail
        go_ret2
        rw [HP.out]
        exact ⟨_, rfl, by rw [← HLX.out]; exact Kd.R_mono HO.out (fun _ _ => trivial), HB.out⟩
end
end Go.Proofs.YtgfkgppomaapiaaDoor.K
end

section
namespace Go.Proofs.YtgfkgppomaapiaaDoor.K
open RowKit YtgfkgppomaapiaaDoorW.PrintWords YtgfkgppomaapiaaDoorW.PrintLast YtgfkgppomaapiaaDoorW.PrintMore My
theorem MF : (Tryd.prog).built 30 (#[] : Array (Nat × Value)).toList = some #[.int .u8 0, .int .u32 0, .int .u32 0, .slice none 0 0, .slice none 0 0, .int .u32 0, .slice none 0 0, .int .i64 0, .int .i64 0, .slice none 0 0] := by kernel_rfl
theorem PI (w : World) : (Instr.build 30 #[]).run Tryd.prog w = .ok (.agg #[.int .u8 0, .int .u32 0, .int .u32 0, .slice none 0 0, .slice none 0 0, .int .u32 0, .slice none 0 0, .int .i64 0, .int .i64 0, .slice none 0 0]) w := run_build w _ _ _ MF
theorem PH {w : World} {b : Nat} {c0 : Value} (x : Bool) (h : w.heap[b]? = some (.cells #[c0] 4 (0, 0))) : (Instr.storeAt 4 (.pointer (some ⟨b, 0, none⟩)) (.bool x)).run Tryd.prog w = .ok () (w.setCell ⟨b, 0, none⟩ (.bool x)) := by
  have z : w.cell? ⟨b, 0, none⟩ = some c0 := (iE h 0).trans rfl
  have y : w.frozen? ⟨b, 0, none⟩ = false := iD h 0
  simp [go_sem, z, y]
theorem Q5 (w : World) : (Instr.storeAt 148 (.pointer (some ⟨w.heap.size, 0, none⟩)) (.agg #[])).run Tryd.prog (w.alloc (.cells #[] 148)) = .ok () (w.alloc (.cells #[] 148)) :=
  run_storeAt_new (P := Tryd.prog) w _ #[] #[] (by kernel_rfl) rfl (by simp)
theorem TT {w : World} {b : Nat} {x : Bool} (h : w.heap[b]? = some (.cells #[.bool x] 4 (0, 0))) : (Instr.loadAt 4 (.pointer (some ⟨b, 0, none⟩))).run Tryd.prog w = .ok (.bool x) w := by
  have z : w.cell? ⟨b, 0, none⟩ = some (.bool x) := (iE h 0).trans rfl
  simp [go_sem, z]
theorem NK (w : World) (A : Option Addr) (n c : Nat) : (Instr.build 151 #[(0, .slice A n c)]).run Tryd.prog w = .ok (.agg #[.slice A n c]) w := run_build w _ _ _ (by kernel_rfl)
theorem QG (w : World) : (Instr.typeAssert (.iface 148 (.agg #[])) 20 148 true).run Tryd.prog w = .ok (.tuple #[.agg #[], .bool true]) w := by
  have hu : (Tryd.prog).underlying 148 = some (.struct #[]) := by kernel_rfl
  simp [Instr.typeAssert, run_underlying hu]
attribute [-go_sem] Instr.build Instr.storeAt
attribute [local go_sem] PI NK Q5 QG
set_option maxRecDepth 20000 in
theorem JE (bx bi : Nat) (w : World) (hx : w.heap[bx]? = some (.cells #[.int .u8 0, .int .u32 0, .int .u32 0, .slice none 0 0, .slice none 0 0, .int .u32 0, .slice none 0 0, .int .i64 0, .int .i64 0, .slice none 0 0] 30 (0, 0))) (hi : w.heap[bi]? = some (.cells #[.bool false] 4 (0, 0))) (hne : bx ≠ bi) :
    CallsD Tryd.prog 96 #[.pointer (some ⟨bx, 0, none⟩), .pointer (some ⟨bi, 0, none⟩)] (.panicking xP) w fun e u' w' =>
      e = .returned (.tuple #[]) ∧ u' = .panicking [{ v := .iface 148 (.agg #[]), recovered := true }] ∧ w' = ((w.alloc (.cells #[] 148)).setRow bx #[.int .u8 0, .int .u32 0, .int .u32 0, .slice none 0 0, .slice none 0 0, .int .u32 0, .slice none 0 0, .int .i64 0, .int .i64 0, .slice none 0 0]).setCell ⟨bi, 0, none⟩ (.bool false) := by
  have hx1 : (w.alloc (.cells #[] 148)).heap[bx]? = some (.cells #[.int .u8 0, .int .u32 0, .int .u32 0, .slice none 0 0, .slice none 0 0, .int .u32 0, .slice none 0 0, .int .i64 0, .int .i64 0, .slice none 0 0] 30 (0, 0)) := jG hx
  have hi1 : ((w.alloc (.cells #[] 148)).setRow bx #[.int .u8 0, .int .u32 0, .int .u32 0, .slice none 0 0, .slice none 0 0, .int .u32 0, .slice none 0 0, .int .i64 0, .int .i64 0, .slice none 0 0]).heap[bi]? = some (.cells #[.bool false] 4 (0, 0)) := by rw [setRow_other _ _ _ _ (fun e => hne e.symm)]; exact jG hi
  have hs1 := fun (_ : True) => mG (a := 0) (k := 0) (i := 0) (x3 := .slice none 0 0) (x4 := .slice none 0 0) (j := 0) (x6 := .slice none 0 0) (p := 0) (q := 0) (x9 := .slice none 0 0) hx1 rfl rfl rfl rfl
  have hs2 := fun (_ : True) => PH false hi1
  clear hx1 hi1 hx hi
  refine callsD_of_wpS Tryd.func96 rfl fun c₀ cs hu => ?_
  simp only [Tryd.ntmps96, List.size_toArray, List.length_cons, List.length_nil, Nat.reduceAdd, Nat.reduceSub, Array.replicate_succ,
     Array.replicate_zero, List.push_toArray, List.append_toArray, List.nil_append, List.cons_append]
  apply wpS_seq
  apply wpS_region
  simp [wpOpsS, go_sem, recoverD, hu, Exit.thenS, xP]
  refine wpS_of_wp ?_
  go_wp2
  cases c₀
  simp_all [bodyPostS, results, Tryd.results96]
theorem LQ (bx bi : Nat) (w : World) :
    CallsD Tryd.prog 96 #[.pointer (some ⟨bx, 0, none⟩), .pointer (some ⟨bi, 0, none⟩)] .returning w fun e u' w' =>
      e = .returned (.tuple #[]) ∧ u' = .returning ∧ w' = w := by
  refine callsD_of_wpS Tryd.func96 rfl fun c₀ cs hu => ?_
  simp only [Tryd.ntmps96, List.size_toArray, List.length_cons, List.length_nil, Nat.reduceAdd, Nat.reduceSub, Array.replicate_succ,
     Array.replicate_zero, List.push_toArray, List.append_toArray, List.nil_append, List.cons_append]
  apply wpS_seq
  apply wpS_region
  simp [wpOpsS, go_sem, recoverD, hu, Exit.thenS]
  refine wpS_of_wp ?_
  go_wp2
  cases c₀
  simp_all [bodyPostS, results, Tryd.results96]
theorem zV {tmps : Array Value} {W : World} {bx bi : Nat} {cs : Array Value} {x : Bool} {R : Ending → World → Prop} (hp : tmps.getD 2 undef = .pointer (some ⟨bx, 0, none⟩)) (hq : tmps.getD 3 undef = .pointer (some ⟨bi, 0, none⟩))
    (hx : W.heap[bx]? = some (.cells cs 30 (0, 0))) (hs : cs.size = 10) (hi : W.heap[bi]? = some (.cells #[.bool x] 4 (0, 0))) (hR : R (.returned (.tuple #[.agg cs, .bool x])) W) : Leaves Tryd.prog Tryd.f74 tmps R [] .returning W := by
  refine ⟨_, ?_, hR⟩
  have h : Tryd.f74.results = #[.cell 2 30, .cell 3 4] := rfl
  have hp' : tmps[2]?.getD undef = .pointer (some ⟨bx, 0, none⟩) := by simpa using hp
  have hq' : tmps[3]?.getD undef = .pointer (some ⟨bi, 0, none⟩) := by simpa using hq
  have h1 := run_loadVar_row (P := Tryd.prog) W bx 30 30 cs (0, 0) _ hx Tryd.underlying30 rfl (by rw [hs]; kernel_rfl)
  have h2 := TT hi
  simp only [Instr.loadAt, Instr.sureAddr, Sem.run_bind, Sem.run_pure, Result.andThen] at h2
  simp [results, h, hp', hq', asAddr, h1, h2]
theorem rH {base : Nat} {x : SRec} {v : Value} {w w' : World} {g : Nat} (h : RecV base x v w) (hg : w.grownBy w' (some g)) (hlt : g < base) : RecV base x v w' := by
  obtain ⟨v3, v4, v6, v9, rfl, h3, h4, h6, h9⟩ := h
  exact ⟨v3, v4, v6, v9, rfl, jM h3 hg hlt, jM h4 hg hlt, jM h6 hg hlt, jM h9 hg hlt⟩
theorem yC {base base' : Nat} {x : SRec} {v : Value} {w : World} (h : RecV base x v w) (hle : base' ≤ base) : RecV base' x v w := by
  obtain ⟨v3, v4, v6, v9, rfl, h3, h4, h6, h9⟩ := h
  exact ⟨v3, v4, v6, v9, rfl, Kd.R_lower h3 hle, Kd.R_lower h4 hle, Kd.R_lower h6 hle, Kd.R_lower h9 hle⟩
theorem zY {w : World} {b : Nat} {c0 : Value} {t : Nat} (v : Value) (h : w.heap[b]? = some (.cells #[c0] t (0, 0))) : (w.setCell ⟨b, 0, none⟩ v).heap[b]? = some (.cells #[v] t (0, 0)) := by
  rw [setCell_eq_setRow w b 0 #[c0] t (0, 0) v h]
  exact setRow_heap w b _ _ _ _ h
theorem xW {w : World} {b i k : Nat} (v : Value) (hne : k ≠ b) : (w.setCell ⟨b, i, none⟩ v).heap[k]? = w.heap[k]? := Below.heap_setCell _ _ _ _ hne
set_option maxRecDepth 20000 in
theorem OO (A : Option Addr) (c : Nat) (l : List UInt8) (w : World) (hC : kb.C w A l.length l) (hc : l.length ≤ c) (hm : (l.length : Int) ≤ 100000) :
    Calls Tryd.prog 74 #[.slice A l.length c] w fun e w' => Below w.heap.size w w' ∧
      ((∃ x r v, recP l = some (x, r) ∧ e = .returned (.tuple #[v, .bool true]) ∧ RecV w.heap.size x v w') ∨ (recP l = none ∧ e = .returned (.tuple #[.agg #[.int .u8 0, .int .u32 0, .int .u32 0, .slice none 0 0, .slice none 0 0, .int .u32 0, .slice none 0 0, .int .i64 0, .int .i64 0, .slice none 0 0], .bool false]))) := by
  have hmf : ∀ (fn : Fn) (first cap : Array Value) (w : World), (Instr.makeFunc fn first cap).run Tryd.prog w = .ok (.func fn first cap) w := fun _ _ _ _ => rfl
  have HC := iC.mk hC
  obtain ⟨WR, hWR⟩ : ∃ WR, WR = ((w.alloc (.cells #[.int .u8 0, .int .u32 0, .int .u32 0, .slice none 0 0, .slice none 0 0, .int .u32 0, .slice none 0 0, .int .i64 0, .int .i64 0, .slice none 0 0] 30)).alloc (.cells #[.bool false] 4)).alloc (.cells #[.slice A l.length c] 151) := ⟨_, rfl⟩
  have HW := iC.mk hWR
  have hB : Below w.heap.size w WR := by rw [hWR]; exact iF (iF (iF (Below.refl _ _) _) _) _
  have HR := iC.mk (show Rd w WR (w.heap.size + 2) l from ⟨A, c, by rw [hWR]; exact iT (by simp), hc, hC⟩)
  have HX := iC.mk (show WR.heap[w.heap.size]? = some (.cells #[.int .u8 0, .int .u32 0, .int .u32 0, .slice none 0 0, .slice none 0 0, .int .u32 0, .slice none 0 0, .int .i64 0, .int .i64 0, .slice none 0 0] 30 (0, 0)) from by rw [hWR]; exact jG (jG (iT rfl)))
  have HI := iC.mk (show WR.heap[w.heap.size + 1]? = some (.cells #[.bool false] 4 (0, 0)) from by rw [hWR]; exact jG (iT (by simp)))
  have HB := iC.mk hB
  have hsz : WR.heap.size = w.heap.size + 3 := by rw [hWR]; simp
  clear hC hWR hB
  go_enter_defers Tryd.func74, Tryd.ntmps74
  go_wp2_with fail
  rw [← HW.out]
  refine (Q9 (w.heap.size + 2) l w WR HR.out HB.out (by omega) hm).mono ?_
  intro e w1 hpp
  cases hp : recP l with
  | none =>
    obtain ⟨rfl, hG⟩ := hpp.short hp
    clear hpp
    have hx1 := (hG.block _ (iZ HX.out) (fun e => by injection e with e; omega)).trans HX.out
    have hi1 := (hG.block _ (iZ HI.out) (fun e => by injection e with e; omega)).trans HI.out
    have HX1 := iC.mk hx1
    have HI1 := iC.mk hi1
    clear hx1 hi1
    go_wp2
    refine leaves_cons (f := 96) (args := #[.pointer (some ⟨w.heap.size, 0, none⟩), .pointer (some ⟨w.heap.size + 1, 0, none⟩)]) (by simp) (by simp [go_sem]) ?_
    refine (JE w.heap.size (w.heap.size + 1) w1 HX1.out HI1.out (by omega)).mono ?_
    rintro e u' w2 ⟨rfl, rfl, rfl⟩
    have hB2 := below_grown HB.out hG (by omega) (Nat.le_refl _)
    have hx2 := (xW (i := 0) (.bool false) (show w.heap.size ≠ w.heap.size + 1 by omega)).trans (setRow_heap (w1.alloc (.cells #[] 148)) w.heap.size _ #[.int .u8 0, .int .u32 0, .int .u32 0, .slice none 0 0, .slice none 0 0, .int .u32 0, .slice none 0 0, .int .i64 0, .int .i64 0, .slice none 0 0] _ _ (jG HX1.out))
    have hi2 := zY (.bool false) ((setRow_other (w1.alloc (.cells #[] 148)) w.heap.size (w.heap.size + 1) #[.int .u8 0, .int .u32 0, .int .u32 0, .slice none 0 0, .slice none 0 0, .int .u32 0, .slice none 0 0, .int .i64 0, .int .i64 0, .slice none 0 0] (by omega)).trans (jG HI1.out))
    refine zV rfl rfl hx2 rfl hi2 ⟨?_, .inr ⟨hp, rfl⟩⟩
    exact iJ (below_grown (iF hB2 _) (jH _ w.heap.size _) (Nat.le_refl _) (Nat.le_refl _)) (by show _ ≤ _; simp)
  | some y =>
    obtain ⟨x, r⟩ := y
    obtain ⟨v, rfl, hv, hR, hG⟩ := hpp.ok hp
    obtain ⟨v3, v4, v6, v9, rfl, h3, h4, h6, h9⟩ := hv
    obtain ⟨A3, d3, rfl⟩ := Kd.R_slice h3
    obtain ⟨A4, d4, rfl⟩ := Kd.R_slice h4
    obtain ⟨A6, d6, rfl⟩ := Kd.R_slice h6
    obtain ⟨A9, d9, rfl⟩ := Kd.R_slice h9
    have hx1 := (hG.block _ (iZ HX.out) (fun e => by injection e with e; omega)).trans HX.out
    have hi1 := (hG.block _ (iZ HI.out) (fun e => by injection e with e; omega)).trans HI.out
    have hs1 := fun (_ : True) => mG (a := x.f0) (k := x.f1) (i := x.f2) (x3 := .slice A3 x.f3.length d3) (x4 := .slice A4 x.f4.length d4) (j := x.f5.f0) (x6 := .slice A6 x.f5.f1.length d6) (p := x.f6) (q := x.f7) (x9 := .slice A9 x.f8.length d9) hx1 rfl rfl rfl rfl
    have hi2 := (setRow_other w1 w.heap.size (w.heap.size + 1) #[.int .u8 x.f0, .int .u32 x.f1, .int .u32 x.f2, .slice A3 x.f3.length d3, .slice A4 x.f4.length d4, .int .u32 x.f5.f0, .slice A6 x.f5.f1.length d6, .int .i64 x.f6, .int .i64 x.f7, .slice A9 x.f8.length d9] (by omega)).trans hi1
    have hs2 := fun (_ : True) => PH true hi2
    have HX1 := iC.mk hx1
    have HI2 := iC.mk hi2
    clear hpp hx1 hi1 hi2
    go_wp2
    refine leaves_cons (f := 96) (args := #[.pointer (some ⟨w.heap.size, 0, none⟩), .pointer (some ⟨w.heap.size + 1, 0, none⟩)]) (by simp) (by simp [go_sem]) ?_
    refine (LQ w.heap.size (w.heap.size + 1) _).mono ?_
    rintro e u' w2 ⟨rfl, rfl, rfl⟩
    have hB2 := below_grown HB.out hG (by omega) (Nat.le_refl _)
    have hx2 := (xW (i := 0) (.bool true) (show w.heap.size ≠ w.heap.size + 1 by omega)).trans (setRow_heap w1 w.heap.size _ #[.int .u8 x.f0, .int .u32 x.f1, .int .u32 x.f2, .slice A3 x.f3.length d3, .slice A4 x.f4.length d4, .int .u32 x.f5.f0, .slice A6 x.f5.f1.length d6, .int .i64 x.f6, .int .i64 x.f7, .slice A9 x.f8.length d9] _ _ HX1.out)
    have hi2 := zY (.bool true) HI2.out
    refine zV rfl rfl hx2 rfl hi2 ⟨?_, .inl ⟨x, r, _, hp, rfl, ?_⟩⟩
    · exact iJ (below_grown hB2 (jH _ w.heap.size _) (Nat.le_refl _) (Nat.le_refl _)) (by show _ ≤ _; simp)
    · exact yC (rH (rH ⟨_, _, _, _, rfl, h3, h4, h6, h9⟩ (jH w1 w.heap.size _) (by omega)) (kF _ (w.heap.size + 1) 0 _) (by omega)) (by omega)
end Go.Proofs.YtgfkgppomaapiaaDoor.K
end

section
namespace Go.Proofs.YtgfkgppomaapiaaDoor.K
open Go.RowKit Go.Proofs.YtgfkgppomaapiaaDoorW.PrintWords Go.Proofs.YtgfkgppomaapiaaDoorW.PrintLast Go.Proofs.YtgfkgppomaapiaaDoorW.PrintMore
def bytes_Equal.f (l0 : List Int) (l1 : List Int) : Option (Bool) := some ((strOfNums l0).toList == (strOfNums l1).toList)
set_option maxHeartbeats 8000000 in
set_option maxRecDepth 100000 in
theorem bytes_Equal.calls (A0 : Option Addr) (c0 : Nat) (l0 : List Int) (A1 : Option Addr) (c1 : Nat) (l1 : List Int) (r : Bool) (w : World) (hr0 : Kd.C (Kd.int .u8) w A0 l0.length l0) (hc0 : l0.length ≤ c0) (hr1 : Kd.C (Kd.int .u8) w A1 l1.length l1) (hc1 : l1.length ≤ c1) (h : bytes_Equal.f l0 l1 = some r) :
    Calls Tryd.prog 75 #[.slice A0 l0.length c0, .slice A1 l1.length c1] w fun e w' => e = .returned (.bool r) ∧ iW w w' := by
  have HR0 := iC.mk hr0
  have HC0 := iC.mk hc0
  clear hr0 hc0
  have HR1 := iC.mk hr1
  have HC1 := iC.mk hc1
  clear hr1 hc1
  have H : (some ((strOfNums l0).toList == (strOfNums l1).toList)) = some r := h
  clear h
  obtain rfl := Option.some.inj H
  have hcv3 := Kd.C_string (P := Tryd.prog) (A := A0) (c := c0) Tryd.underlying33 Tryd.underlying5 Tryd.underlying9 HR0.out
  have hcv4 := Kd.C_string (P := Tryd.prog) (A := A1) (c := c1) Tryd.underlying33 Tryd.underlying5 Tryd.underlying9 HR1.out
  go_enter Tryd.func75, Tryd.ntmps75
  go_wp2
  go_ret
  exact ⟨by first | rfl | (simp; done) | (simp [*]; done), by repeat (first | exact iW.refl _ | apply iW.step)⟩
end Go.Proofs.YtgfkgppomaapiaaDoor.K
end

section
namespace Go.Proofs.YtgfkgppomaapiaaDoor.K
open RowKit YtgfkgppomaapiaaDoorW.PrintWords YtgfkgppomaapiaaDoorW.PrintLast YtgfkgppomaapiaaDoorW.PrintMore My
def kW : SRec := ⟨0, 0, 0, [], [], ⟨0, []⟩, 0, 0, []⟩
def bytesOf (l0 : List Int) : List UInt8 := l0.map fun x => UInt8.ofNat x.toNat
def decR (l : List UInt8) : SRec × Int := if 60000 < l.length then (kW, 3) else match recP l with | none => (kW, 70) | some (x, _) => if encR x = (nums l, 0) then (x, 0) else (kW, 70)
def UN (r : SRec × Int) : Int × Int × Int × List Int × List jO × Int × List jV × Int × Int × List jE × Int := (r.1.f0, r.1.f1, r.1.f2, r.1.f3, r.1.f4, r.1.f5.f0, r.1.f5.f1, r.1.f6, r.1.f7, r.1.f8, r.2)
theorem uI (l : List UInt8) : bytesOf (nums l) = l := by
  unfold bytesOf nums
  rw [List.map_map]
  conv => rhs; rw [← List.map_id l]
  apply List.map_congr_left
  intro b _
  simp
theorem yE {l m : List UInt8} (h : nums l = nums m) : l = m := by rw [← uI l, h, uI]
theorem rO {w : World} {A : Option Addr} {n : Nat} {l : List UInt8} (h : (Kd.int .u8).C w A n (nums l)) : kb.C w A n l := by
  refine ⟨by rw [← jD]; exact h.1, h.2.1, fun hn => ?_⟩
  obtain ⟨ad, e, hc⟩ := h.2.2 hn
  refine ⟨ad, e, fun j p hj => ?_⟩
  obtain ⟨c, h1, h2, h3⟩ := hc j (p.toNat : Int) (by unfold nums; rw [List.getElem?_map, hj]; rfl)
  exact ⟨c, h1, h2, h3⟩
theorem pJ (l m : List UInt8) : ((strOfNums (nums l)).toList == (strOfNums (nums m)).toList) = decide (l = m) := by
  unfold nums
  rw [qA, qA, kP, kP]
  by_cases h : l = m
  · subst h; simp
  · simp [h]
theorem rQ (x : SRec) : encR x = ([], 1) ∨ encR x = ([], 3) ∨ encR x = (nums (recE x), 0) := by
  unfold encR
  split
  · split
    · exact .inr (.inl rfl)
    · exact .inr (.inr rfl)
  · exact .inl rfl
def vO (w : World) (r : SRec × Int) (e : Ending) (w' : World) : Prop := ∃ v, e = .returned (.tuple #[v, .int .u16 r.2]) ∧ RecV w.heap.size r.1 v w' ∧ Below w.heap.size w w'
theorem TI (w w' : World) (c : Int) (h : Below w.heap.size w w') : vO w (kW, c) (.returned (.tuple #[.agg #[.int .u8 0, .int .u32 0, .int .u32 0, .slice none 0 0, .slice none 0 0, .int .u32 0, .slice none 0 0, .int .i64 0, .int .i64 0, .slice none 0 0], .int .u16 c])) w' :=
  ⟨_, rfl, ⟨_, _, _, _, rfl, Kd.R_nil _ _ _ _ _, Kd.R_nil _ _ _ _ _, Kd.R_nil _ _ _ _ _, Kd.R_nil _ _ _ _ _⟩, h⟩
theorem qZ {base : Nat} {x : SRec} {v : Value} {w w' : World} (h : RecV base x v w) (hb : Below w.heap.size w w') : RecV base x v w' := by
  obtain ⟨v3, v4, v6, v9, rfl, h3, h4, h6, h9⟩ := h
  exact ⟨v3, v4, v6, v9, rfl, Kd.R_below h3 hb, Kd.R_below h4 hb, Kd.R_below h6 hb, Kd.R_below h9 hb⟩
theorem rV {tmps : Array Value} {W : World} {p u : Tmp} {b : Nat} {cs : Array Value} {x : Value} (h : Tryd.f22.results = #[.cell p 30, .tmp u]) (hp : tmps.getD p undef = .pointer (some ⟨b, 0, none⟩)) (hu : tmps.getD u undef = x) (hx : W.heap[b]? = some (.cells cs 30 (0, 0))) (hs : cs.size = 10) :
    (results Tryd.f22 tmps).run Tryd.prog W = .ok (.tuple #[.agg cs, x]) W := by
  have h1 := run_loadVar_row (P := Tryd.prog) W b 30 30 cs (0, 0) _ hx Tryd.underlying30 rfl (by rw [hs]; kernel_rfl)
  rw [results_cell_tmp h, hp, hu]
  simp [asAddr, h1, Result.andThen]
theorem vX {w : World} {b : Nat} (h : w.heap[b]? = some (.cells #[.int .u8 0, .int .u32 0, .int .u32 0, .slice none 0 0, .slice none 0 0, .int .u32 0, .slice none 0 0, .int .i64 0, .int .i64 0, .slice none 0 0] 30 (0, 0))) : (Instr.storeAt 30 (.pointer (some ⟨b, 0, none⟩)) (.agg #[.int .u8 0, .int .u32 0, .int .u32 0, .slice none 0 0, .slice none 0 0, .int .u32 0, .slice none 0 0, .int .i64 0, .int .i64 0, .slice none 0 0])).run Tryd.prog w = .ok () (w.setRow b #[.int .u8 0, .int .u32 0, .int .u32 0, .slice none 0 0, .slice none 0 0, .int .u32 0, .slice none 0 0, .int .i64 0, .int .i64 0, .slice none 0 0]) := mG (a := 0) (k := 0) (i := 0) (x3 := .slice none 0 0) (x4 := .slice none 0 0) (j := 0) (x6 := .slice none 0 0) (p := 0) (q := 0) (x9 := .slice none 0 0) h rfl rfl rfl rfl
theorem vM (w W : World) (h : Below w.heap.size w W) (c : Int) : vO w (kW, c) (.returned (.tuple #[.agg #[.int .u8 0, .int .u32 0, .int .u32 0, .slice none 0 0, .slice none 0 0, .int .u32 0, .slice none 0 0, .int .i64 0, .int .i64 0, .slice none 0 0], .int .u16 c])) (W.setRow w.heap.size #[.int .u8 0, .int .u32 0, .int .u32 0, .slice none 0 0, .slice none 0 0, .int .u32 0, .slice none 0 0, .int .i64 0, .int .i64 0, .slice none 0 0]) :=
  TI w _ c (below_grown h (jH W w.heap.size _) (Nat.le_refl _) (Nat.le_refl _))
attribute [-go_sem] Instr.build Instr.storeAt Instr.loadAt
attribute [local go_sem] PI
set_option maxRecDepth 20000 in
set_option maxHeartbeats 8000000 in
theorem decode_any (A : Option Addr) (c : Nat) (l : List UInt8) (w : World) (hCi : (Kd.int .u8).C w A l.length (nums l)) (hc : l.length ≤ c) :
    Calls Tryd.prog 22 #[.slice A l.length c] w (vO w (decR l)) := by
  obtain ⟨Wa, hWa⟩ : ∃ Wa, Wa = w.alloc (.cells #[.int .u8 0, .int .u32 0, .int .u32 0, .slice none 0 0, .slice none 0 0, .int .u32 0, .slice none 0 0, .int .i64 0, .int .i64 0, .slice none 0 0] 30) := ⟨_, rfl⟩
  have HWA := iC.mk hWa
  have hBa : Below w.heap.size w Wa := by rw [hWa]; exact iF (Below.refl _ _) _
  have HXA := iC.mk (show Wa.heap[w.heap.size]? = some (.cells #[.int .u8 0, .int .u32 0, .int .u32 0, .slice none 0 0, .slice none 0 0, .int .u32 0, .slice none 0 0, .int .i64 0, .int .i64 0, .slice none 0 0] 30 (0, 0)) from by rw [hWa]; exact iT rfl)
  have HBA := iC.mk hBa
  have HLT := iC.mk (iZ HXA.out)
  have HCI := iC.mk (Kd.C_below hCi hBa)
  have HC := iC.mk (rO HCI.out)
  clear hCi hWa hBa
  unfold decR
  by_cases hl : 60000 < l.length
  · rw [if_pos hl]
    have hst := fun (_ : True) => vX (show (w.alloc (.cells #[.int .u8 0, .int .u32 0, .int .u32 0, .slice none 0 0, .slice none 0 0, .int .u32 0, .slice none 0 0, .int .i64 0, .int .i64 0, .slice none 0 0] 30)).heap[w.heap.size]? = _ from iT rfl)
    go_enter Tryd.func22, Tryd.ntmps22
    go_wp2
    ((try simp only [Exit.inBlock, Exit.then]); exact bodyPost_ret (rV rfl rfl rfl (setRow_heap _ _ _ _ _ _ (iT rfl)) rfl) rfl (vM w _ (iF (Below.refl _ _) _) 3))
  · rw [if_neg hl]
    have hcall := OO A c l Wa HC.out hc (by omega)
    cases hp : recP l with
    | none =>
      go_enter Tryd.func22, Tryd.ntmps22
      go_wp2_with fail
      rw [← HWA.out]
      refine hcall.mono ?_
      rintro e w1 ⟨hB, hor⟩
      rcases hor.symm with ⟨_, rfl⟩ | ⟨x, r, v, h, _⟩
      case inr => rw [hp] at h; cases h
      have HX := iC.mk ((hB.block _ HLT.out).trans HXA.out)
      have HB := iC.mk (HBA.out.trans (hB.mono HBA.out.size))
      have hst := fun (_ : True) => vX (show (w1.alloc (.cells #[.int .u8 0, .int .u32 0, .int .u32 0, .slice none 0 0, .slice none 0 0, .int .u32 0, .slice none 0 0, .int .i64 0, .int .i64 0, .slice none 0 0] 30)).heap[w.heap.size]? = _ from jG HX.out)
      have hsx := fun (_ : True) => run_storeAt_new (P := Tryd.prog) w1 30 #[.int .u8 0, .int .u32 0, .int .u32 0, .slice none 0 0, .slice none 0 0, .int .u32 0, .slice none 0 0, .int .i64 0, .int .i64 0, .slice none 0 0] #[.int .u8 0, .int .u32 0, .int .u32 0, .slice none 0 0, .slice none 0 0, .int .u32 0, .slice none 0 0, .int .i64 0, .int .i64 0, .slice none 0 0] (by kernel_rfl) rfl (by simp [Value.oneCell'])
      clear hp hcall hB hor
      go_wp2
      ((try simp only [Exit.inBlock, Exit.then]); exact bodyPost_ret (rV rfl rfl rfl (setRow_heap _ _ _ _ _ _ (jG HX.out)) rfl) rfl (vM w _ (iF HB.out _) 70))
    | some y =>
      obtain ⟨x, r⟩ := y
      obtain ⟨D, hD⟩ : ∃ D : SRec × Int, D = (if encR x = (nums l, 0) then (x, 0) else (kW, 70)) := ⟨_, rfl⟩
      show Calls _ _ _ _ (vO w (if encR x = (nums l, 0) then (x, 0) else (kW, 70)))
      rw [← hD]
      have HDD := iC.mk hD
      clear hD
      go_enter Tryd.func22, Tryd.ntmps22
      go_wp2_with fail
      rw [← HWA.out]
      refine hcall.mono ?_
      rintro e w1 ⟨hB, hor⟩
      rcases hor.symm with ⟨h, _⟩ | ⟨x', r', v, h, rfl, hv⟩
      case inl => rw [hp] at h; cases h
      rw [hp] at h
      injection h with h
      injection h with e1 e2
      subst e1
      subst e2
      clear hp hcall hor
      have HX := iC.mk ((hB.block _ HLT.out).trans HXA.out)
      have HB := iC.mk (HBA.out.trans (hB.mono HBA.out.size))
      have HCB0 := iC.mk (Kd.C_below HCI.out hB)
      obtain ⟨v3, v4, v6, v9, rfl, h3, h4, h6, h9⟩ := hv
      obtain ⟨A3, d3, rfl⟩ := Kd.R_slice h3
      obtain ⟨A4, d4, rfl⟩ := Kd.R_slice h4
      obtain ⟨A6, d6, rfl⟩ := Kd.R_slice h6
      obtain ⟨A9, d9, rfl⟩ := Kd.R_slice h9
      have hbw : Below w1.heap.size w1 (w1.alloc (.cells #[.int .u8 x.f0, .int .u32 x.f1, .int .u32 x.f2, .slice A3 x.f3.length d3, .slice A4 x.f4.length d4, .int .u32 x.f5.f0, .slice A6 x.f5.f1.length d6, .int .i64 x.f6, .int .i64 x.f7, .slice A9 x.f8.length d9] 30)) := iF (Below.refl _ _) _
      have HV := iC.mk (qZ (show RecV Wa.heap.size x _ w1 from ⟨_, _, _, _, rfl, h3, h4, h6, h9⟩) hbw)
      have HX0 := HX
      have HX := iC.mk (show (w1.alloc (.cells #[.int .u8 x.f0, .int .u32 x.f1, .int .u32 x.f2, .slice A3 x.f3.length d3, .slice A4 x.f4.length d4, .int .u32 x.f5.f0, .slice A6 x.f5.f1.length d6, .int .i64 x.f6, .int .i64 x.f7, .slice A9 x.f8.length d9] 30)).heap[w.heap.size]? = _ from jG HX0.out)
      have HB := iC.mk (show Below w.heap.size w (w1.alloc (.cells #[.int .u8 x.f0, .int .u32 x.f1, .int .u32 x.f2, .slice A3 x.f3.length d3, .slice A4 x.f4.length d4, .int .u32 x.f5.f0, .slice A6 x.f5.f1.length d6, .int .i64 x.f6, .int .i64 x.f7, .slice A9 x.f8.length d9] 30)) from iF HB.out _)
      have HCB := iC.mk (Kd.C_below HCB0.out hbw)
      have HXX := iC.mk (show (w1.alloc (.cells #[.int .u8 x.f0, .int .u32 x.f1, .int .u32 x.f2, .slice A3 x.f3.length d3, .slice A4 x.f4.length d4, .int .u32 x.f5.f0, .slice A6 x.f5.f1.length d6, .int .i64 x.f6, .int .i64 x.f7, .slice A9 x.f8.length d9] 30)).heap[w1.heap.size]? = some (.cells #[.int .u8 x.f0, .int .u32 x.f1, .int .u32 x.f2, .slice A3 x.f3.length d3, .slice A4 x.f4.length d4, .int .u32 x.f5.f0, .slice A6 x.f5.f1.length d6, .int .i64 x.f6, .int .i64 x.f7, .slice A9 x.f8.length d9] 30 (0, 0)) from iT rfl)
      have h3 := Kd.R_below h3 hbw
      have h4 := Kd.R_below h4 hbw
      have h6 := Kd.R_below h6 hbw
      have h9 := Kd.R_below h9 hbw
      have hsx := fun (_ : True) => run_storeAt_new (P := Tryd.prog) w1 30 #[.int .u8 0, .int .u32 0, .int .u32 0, .slice none 0 0, .slice none 0 0, .int .u32 0, .slice none 0 0, .int .i64 0, .int .i64 0, .slice none 0 0] #[.int .u8 x.f0, .int .u32 x.f1, .int .u32 x.f2, .slice A3 x.f3.length d3, .slice A4 x.f4.length d4, .int .u32 x.f5.f0, .slice A6 x.f5.f1.length d6, .int .i64 x.f6, .int .i64 x.f7, .slice A9 x.f8.length d9] (by kernel_rfl) rfl (by simp [Value.oneCell'])
      have hlx := fun (_ : True) => nU HXX.out rfl
      obtain ⟨_, q3, C3⟩ := Kd.R_reads' h3
      obtain ⟨_, q4, C4⟩ := Kd.R_reads' h4
      obtain ⟨_, q6, C6⟩ := Kd.R_reads' h6
      obtain ⟨_, q9, C9⟩ := Kd.R_reads' h9
      have hcall := fun r1 r2 (h : encR x = (r1, r2)) => code_Encode.calls x.f0 x.f1 x.f2 A3 d3 x.f3 A4 d4 x.f4 x.f5.f0 A6 d6 x.f5.f1 x.f6 x.f7 A9 d9 x.f8 r1 r2 (w1.alloc (.cells #[.int .u8 x.f0, .int .u32 x.f1, .int .u32 x.f2, .slice A3 x.f3.length d3, .slice A4 x.f4.length d4, .int .u32 x.f5.f0, .slice A6 x.f5.f1.length d6, .int .i64 x.f6, .int .i64 x.f7, .slice A9 x.f8.length d9] 30)) C3 q3 C4 q4 C6 q6 C9 q9 (congrArg some h)
      clear h3 h4 h6 h9 C3 C4 C6 C9 q3 q4 q6 q9 hB hbw HX0 HCB0
      rcases rQ x with he | he | he
      · have hcall := hcall _ _ he
        have HNE := iC.mk (show ¬ encR x = (nums l, 0) from by rw [he]; intro h; injection h with h1 h2; cases h2)
        clear he
        go_wp2_with fail
        refine hcall.mono ?_
        rintro e w2 ⟨v0, rfl, h0, hB2⟩
        have HX2 := iC.mk ((hB2.block _ (iZ HX.out)).trans HX.out)
        have HB3 := iC.mk (HB.out.trans (hB2.mono HB.out.size))
        have hst := fun (_ : True) => vX HX2.out
        clear hB2 hcall h0
        go_wp2
        ((try simp only [Exit.inBlock, Exit.then]); exact bodyPost_ret (rV rfl rfl rfl (setRow_heap _ _ _ _ _ _ HX2.out) rfl) rfl (by rw [HDD.out, if_neg HNE.out]; exact vM w _ HB3.out 70))
      · have hcall := hcall _ _ he
        have HNE := iC.mk (show ¬ encR x = (nums l, 0) from by rw [he]; intro h; injection h with h1 h2; cases h2)
        clear he
        go_wp2_with fail
        refine hcall.mono ?_
        rintro e w2 ⟨v0, rfl, h0, hB2⟩
        have HX2 := iC.mk ((hB2.block _ (iZ HX.out)).trans HX.out)
        have HB3 := iC.mk (HB.out.trans (hB2.mono HB.out.size))
        have hst := fun (_ : True) => vX HX2.out
        clear hB2 hcall h0
        go_wp2
        ((try simp only [Exit.inBlock, Exit.then]); exact bodyPost_ret (rV rfl rfl rfl (setRow_heap _ _ _ _ _ _ HX2.out) rfl) rfl (by rw [HDD.out, if_neg HNE.out]; exact vM w _ HB3.out 70))
      · have hcall := hcall _ _ he
        have HE := iC.mk he
        clear he
        go_wp2_with fail
        refine hcall.mono ?_
        rintro e w2 ⟨v0, rfl, h0, hB2⟩
        clear hcall
        obtain ⟨A0, d0, rfl⟩ := Kd.R_slice h0
        obtain ⟨_, q0, C0⟩ := Kd.R_reads' h0
        have HX2 := iC.mk ((hB2.block _ (iZ HX.out)).trans HX.out)
        have HB3 := iC.mk (HB.out.trans (hB2.mono HB.out.size))
        have HV2 := iC.mk (qZ HV.out hB2)
        have HXX2 := iC.mk ((hB2.block _ (iZ HXX.out)).trans HXX.out)
        have hcall := bytes_Equal.calls A0 d0 (nums (recE x)) A c (nums l) _ w2 C0 q0 (by rw [jD]; exact Kd.C_below HCB.out hB2) (by rw [jD]; exact hc) rfl
        rw [pJ, jD l] at hcall
        clear C0 h0 hB2 q0
        by_cases hq : recE x = l
        · rw [decide_eq_true hq] at hcall
          have HEQ := iC.mk (show encR x = (nums l, 0) from by rw [HE.out, hq])
          clear hq
          go_wp2_with fail
          refine hcall.mono ?_
          rintro e w3 ⟨rfl, hD⟩
          have HX3 := iC.mk ((hD.below.block _ (iZ HX2.out)).trans HX2.out)
          have HB4 := iC.mk (HB3.out.trans (hD.below.mono HB3.out.size))
          have HV3 := iC.mk (qZ HV2.out hD.below)
          have hl3 := fun (_ : True) => nU ((hD.below.block _ (iZ HXX2.out)).trans HXX2.out) rfl
          have hst := fun (_ : True) => mG (a := x.f0) (k := x.f1) (i := x.f2) (x3 := .slice A3 x.f3.length d3) (x4 := .slice A4 x.f4.length d4) (j := x.f5.f0) (x6 := .slice A6 x.f5.f1.length d6) (p := x.f6) (q := x.f7) (x9 := .slice A9 x.f8.length d9) HX3.out rfl rfl rfl rfl
          clear hcall hD
          go_wp2
          (try simp only [Exit.inBlock, Exit.then])
          refine bodyPost_ret (rV rfl rfl rfl (setRow_heap _ _ _ _ _ _ HX3.out) rfl) rfl ?_
          rw [HDD.out, if_pos HEQ.out]
          exact ⟨_, rfl, yC (rH HV3.out (jH _ w.heap.size _) HLT.out) HBA.out.size, below_grown HB4.out (jH _ w.heap.size _) (Nat.le_refl _) (Nat.le_refl _)⟩
        · rw [decide_eq_false hq] at hcall
          have HNE := iC.mk (show ¬ encR x = (nums l, 0) from by rw [HE.out]; intro h; injection h with h1 h2; exact hq (yE h1))
          clear hq
          go_wp2_with fail
          refine hcall.mono ?_
          rintro e w3 ⟨rfl, hD⟩
          have HX3 := iC.mk ((hD.below.block _ (iZ HX2.out)).trans HX2.out)
          have HB4 := iC.mk (HB3.out.trans (hD.below.mono HB3.out.size))
          have hst := fun (_ : True) => vX HX3.out
          clear hcall hD
          go_wp2
          ((try simp only [Exit.inBlock, Exit.then]); exact bodyPost_ret (rV rfl rfl rfl (setRow_heap _ _ _ _ _ _ HX3.out) rfl) rfl (by rw [HDD.out, if_neg HNE.out]; exact vM w _ HB4.out 70))
def code_Decode.f (l0 : List Int) : Option (Int × Int × Int × List Int × List jO × Int × List jV × Int × Int × List jE × Int) := if nums (bytesOf l0) = l0 then some (UN (decR (bytesOf l0))) else none
end Go.Proofs.YtgfkgppomaapiaaDoor.K
end

section
namespace Go.Proofs.YtgfkgppomaapiaaDoor.K
open RowKit YtgfkgppomaapiaaDoorW.PrintWords YtgfkgppomaapiaaDoorW.PrintLast YtgfkgppomaapiaaDoorW.PrintMore My
def yU : SRec := ⟨3, 5, 0, [], [], ⟨0, []⟩, 0, 0, []⟩
theorem OQ : encR yU = (nums [3, 0, 0, 0, 5], 0) := by decide
theorem OY : decR [3, 0, 0, 0, 5] = (yU, 0) := by rfl
theorem NQ : decR [] = (kW, 70) := by rfl
def stratumlaw07_known.f : Option Bool := some true
theorem PW (w : World) : (Instr.build 30 #[(0, .int .u8 3), (1, .int .u32 5)]).run Tryd.prog w = .ok (.agg #[.int .u8 3, .int .u32 5, .int .u32 0, .slice none 0 0, .slice none 0 0, .int .u32 0, .slice none 0 0, .int .i64 0, .int .i64 0, .slice none 0 0]) w := run_build w _ _ _ (I7 3 5)
theorem UR {w : World} {b : Nat} {c0 c1 c2 c3 c4 c5 c6 c7 c8 c9 : Value} (h : w.heap[b]? = some (.cells #[c0, c1, c2, c3, c4, c5, c6, c7, c8, c9] 30 (0, 0))) : (Instr.loadAt 22 (.pointer (some ⟨b, 1, none⟩))).run Tryd.prog w = .ok c1 w := by
  have z0 : w.cell? ⟨b, 1, none⟩ = some c1 := (iE h 1).trans rfl
  simp [go_sem, z0]
attribute [-go_sem] Instr.build Instr.storeAt Instr.loadAt
attribute [local go_sem] PW
set_option maxRecDepth 20000 in
set_option maxHeartbeats 4000000 in
theorem stratumlaw07_known.calls (r : Bool) (w : World) (h : stratumlaw07_known.f = some r) : Calls Tryd.prog 16 #[] w fun e w' => e = .returned (.bool r) ∧ Below w.heap.size w w' := by
  obtain rfl := Option.some.inj h
  clear h
  have henc := code_Encode.calls 3 5 0 none 0 [] none 0 [] 0 none 0 [] 0 0 none 0 [] _ _ w (Kd.C_nil _ _) (Nat.le_refl _) (Kd.C_nil _ _) (Nat.le_refl _) (Kd.C_nil _ _) (Nat.le_refl _) (Kd.C_nil _ _) (Nat.le_refl _) (congrArg some OQ)
  go_enter Tryd.func16, Tryd.ntmps16
  go_wp2_with fail
  refine henc.mono ?_
  rintro e w1 ⟨v0, rfl, h0, hB⟩
  clear henc
  obtain ⟨A0, d0, rfl⟩ := Kd.R_slice h0
  obtain ⟨_, q0, C0⟩ := Kd.R_reads' h0
  have q0 : 5 ≤ d0 := q0
  have C0 : (Kd.int .u8).C w1 A0 5 (nums [3, 0, 0, 0, 5]) := C0
  simp only [show (nums [3, 0, 0, 0, 5]).length = 5 from rfl]
  have HB := iC.mk hB
  have HC := iC.mk C0
  have hdec : Calls Tryd.prog 22 #[.slice A0 5 d0] w1 (vO w1 (decR [3, 0, 0, 0, 5])) := decode_any A0 d0 [3, 0, 0, 0, 5] w1 C0 q0
  rw [OY] at hdec
  clear h0 hB C0
  go_wp2_with fail
  refine hdec.mono ?_
  rintro e w2 ⟨v, rfl, ⟨v3, v4, v6, v9, rfl, h3, h4, h6, h9⟩, hB⟩
  clear hdec
  obtain ⟨A3, d3, rfl⟩ := Kd.R_slice h3
  obtain ⟨A4, d4, rfl⟩ := Kd.R_slice h4
  obtain ⟨A6, d6, rfl⟩ := Kd.R_slice h6
  obtain ⟨A9, d9, rfl⟩ := Kd.R_slice h9
  have hbw : Below w2.heap.size w2 (w2.alloc (.cells #[.int .u8 3, .int .u32 5, .int .u32 0, .slice A3 0 d3, .slice A4 0 d4, .int .u32 0, .slice A6 0 d6, .int .i64 0, .int .i64 0, .slice A9 0 d9] 30)) := iF (Below.refl _ _) _
  have hB2 := HB.out.trans ((hB.trans (hbw.mono hB.size)).mono HB.out.size)
  have HB2 := iC.mk hB2
  have HC2 := iC.mk (Kd.C_below HC.out (hB.trans (hbw.mono hB.size)))
  have HX := iC.mk (show (w2.alloc (.cells #[.int .u8 3, .int .u32 5, .int .u32 0, .slice A3 0 d3, .slice A4 0 d4, .int .u32 0, .slice A6 0 d6, .int .i64 0, .int .i64 0, .slice A9 0 d9] 30)).heap[w2.heap.size]? = some (.cells #[.int .u8 3, .int .u32 5, .int .u32 0, .slice A3 0 d3, .slice A4 0 d4, .int .u32 0, .slice A6 0 d6, .int .i64 0, .int .i64 0, .slice A9 0 d9] 30 (0, 0)) from iT rfl)
  obtain ⟨_, q3, C3⟩ := Kd.R_reads' h3
  obtain ⟨_, q4, C4⟩ := Kd.R_reads' h4
  obtain ⟨_, q6, C6⟩ := Kd.R_reads' h6
  obtain ⟨_, q9, C9⟩ := Kd.R_reads' h9
  have H3 := iC.mk (Kd.C_below C3 hbw)
  have H4 := iC.mk (Kd.C_below C4 hbw)
  have H6 := iC.mk (Kd.C_below C6 hbw)
  have H9 := iC.mk (Kd.C_below C9 hbw)
  have hsx := fun (_ : True) => run_storeAt_new (P := Tryd.prog) w2 30 #[.int .u8 0, .int .u32 0, .int .u32 0, .slice none 0 0, .slice none 0 0, .int .u32 0, .slice none 0 0, .int .i64 0, .int .i64 0, .slice none 0 0] #[.int .u8 3, .int .u32 5, .int .u32 0, .slice A3 0 d3, .slice A4 0 d4, .int .u32 0, .slice A6 0 d6, .int .i64 0, .int .i64 0, .slice A9 0 d9] (by kernel_rfl) rfl (by simp [Value.oneCell'])
  have hdec := decode_any none 0 [] (w2.alloc (.cells #[.int .u8 3, .int .u32 5, .int .u32 0, .slice A3 0 d3, .slice A4 0 d4, .int .u32 0, .slice A6 0 d6, .int .i64 0, .int .i64 0, .slice A9 0 d9] 30)) (Kd.C_nil _ _) (Nat.le_refl _)
  rw [NQ] at hdec
  clear h3 h4 h6 h9 C3 C4 C6 C9 hB hB2 hbw
  simp only [yU, List.length_nil]
  go_wp2_with fail
  refine hdec.mono ?_
  rintro e w3 ⟨v, rfl, ⟨v3, v4, v6, v9, rfl, h3, h4, h6, h9⟩, hB⟩
  clear hdec
  obtain ⟨B3, e3, rfl⟩ := Kd.R_slice h3
  obtain ⟨B4, e4, rfl⟩ := Kd.R_slice h4
  obtain ⟨B6, e6, rfl⟩ := Kd.R_slice h6
  obtain ⟨B9, e9, rfl⟩ := Kd.R_slice h9
  have hbw : Below w3.heap.size w3 (w3.alloc (.cells #[.int .u8 0, .int .u32 0, .int .u32 0, .slice B3 0 e3, .slice B4 0 e4, .int .u32 0, .slice B6 0 e6, .int .i64 0, .int .i64 0, .slice B9 0 e9] 30)) := iF (Below.refl _ _) _
  have hB' := hB.trans (hbw.mono hB.size)
  have HB3 := iC.mk (HB2.out.trans (hB'.mono HB2.out.size))
  have hx3 := (hB'.block _ (iZ HX.out)).trans HX.out
  have hl1 := fun (_ : True) => UR hx3
  have hl2 := fun (_ : True) => nU hx3 rfl
  have hcv := fun (_ : True) => JI (c := d0) (rO (n := 5) (l := [3, 0, 0, 0, 5]) (Kd.C_below HC2.out hB'))
  have hsx := fun (_ : True) => run_storeAt_new (P := Tryd.prog) w3 30 #[.int .u8 0, .int .u32 0, .int .u32 0, .slice none 0 0, .slice none 0 0, .int .u32 0, .slice none 0 0, .int .i64 0, .int .i64 0, .slice none 0 0] #[.int .u8 0, .int .u32 0, .int .u32 0, .slice B3 0 e3, .slice B4 0 e4, .int .u32 0, .slice B6 0 e6, .int .i64 0, .int .i64 0, .slice B9 0 e9] (by kernel_rfl) rfl (by simp [Value.oneCell'])
  have hsd := code_Sound.calls 3 5 0 A3 d3 [] A4 d4 [] 0 A6 d6 [] 0 0 A9 d9 [] true _ (Kd.C_below H3.out hB') q3 (Kd.C_below H4.out hB') q4 (Kd.C_below H6.out hB') q6 (Kd.C_below H9.out hB') q9 rfl
  clear hx3 hB hB' h3 h4 h6 h9 hbw
  simp only [kW, List.length_nil]
  have hbl : True → (bs [3, 0, 0, 0, 5]).toList = [3, 0, 0, 0, 5] := fun _ => kP _
  go_wp2_with fail
  refine hsd.mono ?_
  rintro e w4 ⟨rfl, hB⟩
  have HB4 := iC.mk (HB3.out.trans (hB.mono HB3.out.size))
  clear hsd hB
  go_wp2
  go_ret
  exact ⟨rfl, HB4.out⟩
end Go.Proofs.YtgfkgppomaapiaaDoor.K
end

section
namespace Go.Proofs.YtgfkgppomaapiaaDoor.My
open Go Go.RowKit Go.Deep Go.ChangeShapes Go.WideShapes Go.ChangeAt Go.Proofs.YtgfkgppomaapiaaDoorW.PrintWords
def Came {α : Type} (d : Kd α) (t : TypeId) (ok : α → Prop) (wt : α → Nat) : Prop :=
  ∀ {H : Type} (enc : TypeId × Value → H) (w : World) (fuel : Nat) (cs : List Value) (x : DataW H × List MemPlace), DataW.trod enc Tryd.prog w 0 (fun _ => true) true fuel t cs = some x → ∃ v : α, d.K w v cs ∧ ok v ∧ wt v ≤ Rows.uptoBulk x.1
theorem QL {k : IntKind} {t : TypeId} (ht : Tryd.prog.underlying t = some (.int k)) : Came (Kd.int k) t (fun n => (Lit.int k n).wf = true) (fun _ => 1) := by
  intro H enc w fuel cs x h
  obtain ⟨n, rfl, hx, hw⟩ := DataW.trod_int ht h
  exact ⟨n, rfl, hw, by rw [hx]; simp [Rows.uptoBulk]⟩
def yY {α : Type} (wt : α → Nat) (l : List α) : Nat := (l.map wt).sum
theorem MR {α : Type} (wt : α → Nat) (x : α) (l : List α) : yY wt (x :: l) = wt x + yY wt l := by simp [yY]
theorem QP {α : Type} [Inhabited α] {n : Nat} {p : Nat → α → Prop} (h : ∀ i, i < n → ∃ x, p i x) : ∃ f : Nat → α, ∀ i, i < n → p i (f i) := by
  classical
  refine ⟨fun i => if h' : i < n then Classical.choose (h i h') else default, fun i hi => ?_⟩
  simp only [dif_pos hi]
  exact Classical.choose_spec (h i hi)
theorem NF {w : World} {a : Addr} {n : Nat} {cs : List Value} (h : w.cells? 0 a n = some cs) (i : Nat) (v : Value) (hi : cs[i]? = some v) : w.cell? (a.add i) = some v := by
  obtain ⟨_, hl, hc⟩ := World.cells?_some h
  have hil : i < n := by have := (List.getElem?_eq_some_iff.1 hi).1; omega
  rw [hc i hil]
  exact hi
theorem LZ {α : Type} [Inhabited α] {d : Kd α} {t e : TypeId} {ok : α → Prop} {wt : α → Nat} (ht : Tryd.prog.underlying t = some (.slice e)) (hc : Tryd.prog.cellsOf e = d.sz) (he : Came d e ok wt) :
    Came (Kd.slice e d) t (fun l => ∀ x ∈ l, ok x) (fun l => yY wt l + 1) := by
  intro H enc w fuel cs x h
  rcases open_slice ht h with ⟨rfl, rfl⟩ | ⟨ad, len, cap, m, n, D, Pl, rfl, _, hl, hmax, hm, rfl, hel⟩
  · exact ⟨[], ⟨none, 0, rfl, Nat.le_refl _, ⟨rfl, by simp, fun h => absurd h (Nat.lt_irrefl 0)⟩⟩, (by simp), by simp [yY, Rows.uptoBulk]⟩
  · have hlm : len ≤ m := by rw [hm]; simp; exact hl
    have one : ∀ i, i < len → ∃ v : α, (∃ cs', w.cells? 0 (ad.add (i * Tryd.prog.cellsOf e)) (Tryd.prog.cellsOf e) = some cs' ∧ d.K w v cs') ∧ ok v ∧ wt v ≤ Rows.uptoBulk (D i) := by
      intro i hi
      obtain ⟨cs', h1, h2⟩ := hel i (by omega)
      obtain ⟨v, h3, h4, h5⟩ := he enc w n cs' _ h2
      exact ⟨v, ⟨cs', h1, h3⟩, h4, h5⟩
    obtain ⟨L, hL⟩ := QP one
    have hlen : ((List.range len).map L).length = len := by simp
    refine ⟨(List.range len).map L, ⟨some ad, cap, by rw [hlen], by rw [hlen]; exact hl, ?_⟩, ?_, ?_⟩
    · rw [hlen]
      refine ⟨hlen, by unfold maxLen at hmax; omega, fun _ => ⟨ad, rfl, fun j p hj => ?_⟩⟩
      have hjl : j < len := by have := (List.getElem?_eq_some_iff.1 hj).1; simpa using this
      have hp : p = L j := by
        rw [List.getElem?_map, List.getElem?_range hjl] at hj
        simp only [Option.map_some, Option.some.injEq] at hj
        exact hj.symm
      subst hp
      obtain ⟨⟨cs', h1, h2⟩, _, _⟩ := hL j hjl
      rw [hc] at h1
      refine ⟨cs', d.K_len h2, h2, fun i u hi => ?_⟩
      have := NF h1 i u hi
      rwa [Go.Deep.add_add] at this
    · intro y hy
      obtain ⟨i, hi, rfl⟩ := List.mem_map.1 hy
      exact (hL i (List.mem_range.1 hi)).2.1
    · have key : ∀ is : List Nat, (∀ i ∈ is, i < len) → yY wt (is.map L) ≤ Rows.uptoBulkAll (is.map D) := by
        intro is
        induction is with
        | nil => intro _; simp [yY, Rows.uptoBulkAll]
        | cons i is ih =>
          intro hi
          have h3 := ih (fun k hk => hi k (List.mem_cons_of_mem _ hk))
          have h4 := (hL i (hi i List.mem_cons_self)).2.2
          rw [List.map_cons, List.map_cons, MR]
          simp only [Rows.uptoBulkAll]
          omega
      have := key (List.range len) (fun i hi => List.mem_range.1 hi)
      simp only [Rows.uptoBulk]
      omega
theorem O6 {α : Type} {d : Kd α} {t : TypeId} {ok ok' : α → Prop} {wt : α → Nat} (h : Came d t ok wt) (hok : ∀ x, ok x → ok' x) : Came d t ok' wt := by
  intro H enc w fuel cs x hx
  obtain ⟨v, h1, h2, h3⟩ := h enc w fuel cs x hx
  exact ⟨v, h1, hok v h2, h3⟩
theorem came_C {α : Type} {d : Kd α} {t e : TypeId} {ok : List α → Prop} {wt : List α → Nat} (h : Came (Kd.slice e d) t ok wt) {H : Type} (enc : TypeId × Value → H) {w : World} {fuel : Nat} {v : Value} {x : DataW H × List MemPlace} (ht : DataW.trod enc Tryd.prog w 0 (fun _ => true) true fuel t v.cells.toList = some x) :
    ∃ (A : Option Addr) (c : Nat) (l : List α), v.cells.toList = [.slice A l.length c] ∧ l.length ≤ c ∧ d.C w A l.length l ∧ ok l ∧ wt l ≤ Rows.uptoBulk x.1 := by
  obtain ⟨l, ⟨A, c, h1, h2, h3⟩, h4, h5⟩ := h enc w fuel _ x ht
  exact ⟨A, c, l, h1, h2, h3, h4, h5⟩
end Go.Proofs.YtgfkgppomaapiaaDoor.My
end

section
namespace Go.Proofs.YtgfkgppomaapiaaDoor.K
open Go Go.RowKit Go.Deep Go.ChangeShapes Go.WideShapes Go.ChangeAt Go.Proofs.YtgfkgppomaapiaaDoorW.PrintWords Go.Proofs.YtgfkgppomaapiaaDoor.My
instance : Inhabited jO := ⟨⟨[], 0⟩⟩
instance : Inhabited jE := ⟨⟨0, []⟩⟩
instance : Inhabited jV := ⟨⟨0, 0⟩⟩
def wtI (_ : Int) : Nat := 1
theorem came_bytes : Came (Kd.slice 5 (Kd.int .u8)) 33 (fun l => ∀ v ∈ l, 0 ≤ v ∧ v < 256) (fun l => yY wtI l + 1) :=
  O6 (LZ (wt := wtI) Tryd.underlying33 (by kernel_rfl) (QL Tryd.underlying5)) (fun _ h x hx => wf_u8 (h x hx))
end Go.Proofs.YtgfkgppomaapiaaDoor.K
end

section
namespace Go.Proofs.YtgfkgppomaapiaaDoor.K
open Go.RowKit Go.Proofs.YtgfkgppomaapiaaDoorW.PrintWords Go.Proofs.YtgfkgppomaapiaaDoorW.PrintLast Go.Proofs.YtgfkgppomaapiaaDoorW.PrintMore
def stratumlaw07_heavy.l0 : Nat → List (S139) → Int → Int → Option (Int)
  | 0, _, _, _ => none
  | k + 1, x0, x3, x4 => if x4 < (x0.length : Int) then (if 0 ≤ x4 then (stratumlaw07_heavy.l0 k x0 (wrap64 (x3 + (wrap64 (1 + (((iV x0 x4).f0).length : Int))))) (wrap64 (x4 + 1))) else (none)) else (some x3)
def stratumlaw07_heavy.f (k : Nat) (l0 : List (S139)) : Option (Int) := stratumlaw07_heavy.l0 k l0 0 0
end Go.Proofs.YtgfkgppomaapiaaDoor.K
end

section
namespace Go.Proofs.YtgfkgppomaapiaaDoor.K
open Go.RowKit Go.Proofs.YtgfkgppomaapiaaDoorW.PrintWords Go.Proofs.YtgfkgppomaapiaaDoorW.PrintLast Go.Proofs.YtgfkgppomaapiaaDoorW.PrintMore
def stratumlaw07_Heavy.l0 : Nat → Int → Int → Int → Int → Int → List Int → List (S139) → Int → List (S98) → Int → Int → List (S86) → Option (Int)
  | 0, _, _, _, _, _, _, _, _, _, _, _, _ => none
  | k + 1, x3, x4, x103000, x103001, x103002, x103003, x103004, x103005, x103006, x103007, x103008, x103009 => if x4 < (x103009.length : Int) then (if 0 ≤ x4 then ((stratumlaw07_heavy.f k ((iP x103009 x4).f1)).bind fun t105 => (stratumlaw07_Heavy.l0 k (wrap64 (x3 + (wrap64 (1 + t105)))) (wrap64 (x4 + 1)) x103000 x103001 x103002 x103003 x103004 x103005 x103006 x103007 x103008 x103009)) else (none)) else (some x3)
def stratumlaw07_Heavy.f (k : Nat) (a0_0 : Int) (a0_1 : Int) (a0_2 : Int) (l0_3 : List Int) (l0_4 : List (S139)) (a0_5 : Int) (l0_6 : List (S98)) (a0_7 : Int) (a0_8 : Int) (l0_9 : List (S86)) : Option (Int) := (stratumlaw07_heavy.f k l0_4).bind fun t103 => (stratumlaw07_Heavy.l0 k (wrap64 ((wrap64 ((l0_3.length : Int) + (l0_6.length : Int))) + t103)) 0 a0_0 a0_1 a0_2 l0_3 l0_4 a0_5 l0_6 a0_7 a0_8 l0_9)
end Go.Proofs.YtgfkgppomaapiaaDoor.K
end

section
namespace Go.Proofs.YtgfkgppomaapiaaDoor.K
open RowKit YtgfkgppomaapiaaDoorW.PrintWords YtgfkgppomaapiaaDoorW.PrintLast YtgfkgppomaapiaaDoorW.PrintMore My
section
variable (a0 a1 a2 : Int) (A3 : Option Addr) (c3 : Nat) (l3 : List Int) (A4 : Option Addr) (c4 : Nat) (l4 : List jO) (a5 : Int) (A6 : Option Addr) (c6 : Nat) (l6 : List jV) (a7 a8 : Int) (A9 : Option Addr) (c9 : Nat) (l9 : List jE) (w : World)
    (h3 : Kd.C (Kd.int .i64) w A3 l3.length l3) (d3 : l3.length ≤ c3) (h4 : Kd.C k139 w A4 l4.length l4) (d4 : l4.length ≤ c4) (h6 : Kd.C k98 w A6 l6.length l6) (d6 : l6.length ≤ c6) (h9 : Kd.C k86 w A9 l9.length l9) (d9 : l9.length ≤ c9)
include h3 d3 h4 d4 h6 d6 h9 d9
theorem I4 : Calls Tryd.prog 20 #[.agg #[.int .u8 a0, .int .u32 a1, .int .u32 a2, .slice A3 l3.length c3, .slice A4 l4.length c4, .int .u32 a5, .slice A6 l6.length c6, .int .i64 a7, .int .i64 a8, .slice A9 l9.length c9]] w fun e w' => e = .returned (.bool (jJ ⟨a0, a1, a2, l3, l4, ⟨a5, l6⟩, a7, a8, l9⟩)) ∧ Below w.heap.size w w' := by
  obtain ⟨kk, hsk⟩ := (nS a0 a1 a2 l3 l4 a5 l6 a7 a8 l9 (pF h3 h4 h6 h9)).rounds
  exact stratumref07_Sound.calls kk a0 a1 a2 A3 c3 l3 A4 c4 l4 a5 A6 c6 l6 a7 a8 A9 c9 l9 _ w h3 d3 h4 d4 h6 d6 h9 d9 hsk
set_option maxHeartbeats 4000000 in
theorem NL (hs : jJ ⟨a0, a1, a2, l3, l4, ⟨a5, l6⟩, a7, a8, l9⟩ = false) : Calls Tryd.prog 18 #[.agg #[.int .u8 a0, .int .u32 a1, .int .u32 a2, .slice A3 l3.length c3, .slice A4 l4.length c4, .int .u32 a5, .slice A6 l6.length c6, .int .i64 a7, .int .i64 a8, .slice A9 l9.length c9]] w (nX w (encR ⟨a0, a1, a2, l3, l4, ⟨a5, l6⟩, a7, a8, l9⟩)) := by
  have hbw : Below w.heap.size w (w.alloc (.cells #[.int .u8 a0, .int .u32 a1, .int .u32 a2, .slice A3 l3.length c3, .slice A4 l4.length c4, .int .u32 a5, .slice A6 l6.length c6, .int .i64 a7, .int .i64 a8, .slice A9 l9.length c9] 30)) := iF (Below.refl _ _) _
  have hsnd := I4 a0 a1 a2 A3 c3 l3 A4 c4 l4 a5 A6 c6 l6 a7 a8 A9 c9 l9 _ (Kd.C_below h3 hbw) d3 (Kd.C_below h4 hbw) d4 (Kd.C_below h6 hbw) d6 (Kd.C_below h9 hbw) d9
  rw [hs] at hsnd
  have hr : encR ⟨a0, a1, a2, l3, l4, ⟨a5, l6⟩, a7, a8, l9⟩ = ([], 1) := by unfold encR; rw [if_neg (by rw [hs]; decide)]
  rw [hr]
  clear hs hr hbw h3 h4 h6 h9
  go_enter Tryd.func18, Tryd.ntmps18
  go_wp2_with fail
  go_at_call 20
  (with_reducible refine hsnd.mono ?_)
  clear hsnd
  rintro e w0 ⟨rfl, hb1⟩
  go_wp2_with fail
  go_ret2
  exact ⟨_, rfl, Kd.R_nil _ _ _ _ _, iI (iF (Below.refl _ _) _) hb1⟩
theorem yQ : Calls Tryd.prog 18 #[.agg #[.int .u8 a0, .int .u32 a1, .int .u32 a2, .slice A3 l3.length c3, .slice A4 l4.length c4, .int .u32 a5, .slice A6 l6.length c6, .int .i64 a7, .int .i64 a8, .slice A9 l9.length c9]] w (nX w (encR ⟨a0, a1, a2, l3, l4, ⟨a5, l6⟩, a7, a8, l9⟩)) := by
  cases hs : jJ ⟨a0, a1, a2, l3, l4, ⟨a5, l6⟩, a7, a8, l9⟩ with
  | false => exact NL a0 a1 a2 A3 c3 l3 A4 c4 l4 a5 A6 c6 l6 a7 a8 A9 c9 l9 w h3 d3 h4 d4 h6 d6 h9 d9 hs
  | true =>
    have h7 : ¬ (a0 < 1 ∨ 7 < a0) := by
      intro h
      rw [OC _ _ _ _ _ _ _ _ _ _ h] at hs
      cases hs
    have h7 : a0 = 1 ∨ a0 = 2 ∨ a0 = 3 ∨ a0 = 4 ∨ a0 = 5 ∨ a0 = 6 ∨ a0 = 7 := by omega
    rcases h7 with rfl | rfl | rfl | rfl | rfl | rfl | rfl
    · exact OE a1 a2 A3 c3 l3 A4 c4 l4 a5 A6 c6 l6 a7 a8 A9 c9 l9 w h3 d3 h4 d4 h6 d6 h9 d9 hs
    · exact OD a1 a2 A3 c3 l3 A4 c4 l4 a5 A6 c6 l6 a7 a8 A9 c9 l9 w h3 d3 h4 d4 h6 d6 h9 d9 hs
    · exact PM a1 a2 A3 c3 l3 A4 c4 l4 a5 A6 c6 l6 a7 a8 A9 c9 l9 w h3 d3 h4 d4 h6 d6 h9 d9 hs
    · exact OU a1 a2 A3 c3 l3 A4 c4 l4 a5 A6 c6 l6 a7 a8 A9 c9 l9 w h3 d3 h4 d4 h6 d6 h9 d9 hs
    · exact NV a1 a2 A3 c3 l3 A4 c4 l4 a5 A6 c6 l6 a7 a8 A9 c9 l9 w h3 d3 h4 d4 h6 d6 h9 d9 hs
    · exact OB a1 a2 A3 c3 l3 A4 c4 l4 a5 A6 c6 l6 a7 a8 A9 c9 l9 w h3 d3 h4 d4 h6 d6 h9 d9 hs
    · exact NZ a1 a2 A3 c3 l3 A4 c4 l4 a5 A6 c6 l6 a7 a8 A9 c9 l9 w h3 d3 h4 d4 h6 d6 h9 d9 hs
end
end Go.Proofs.YtgfkgppomaapiaaDoor.K
end

section
namespace Go.Proofs.YtgfkgppomaapiaaDoor.K
open Go.RowKit Go.Proofs.YtgfkgppomaapiaaDoorW.PrintWords Go.Proofs.YtgfkgppomaapiaaDoorW.PrintLast Go.Proofs.YtgfkgppomaapiaaDoorW.PrintMore
mutual
def stratumlaw07_Facts.l0 : Nat → List (S139) → List (S139) → Int → Option ((List (S139)))
  | 0, _, _, _ => none
  | k + 1, x0, x3, x4 => if x4 < (x0.length : Int) then (stratumlaw07_Facts.j1 k x0 x3 x4 (decide (x4 < 60))) else (stratumlaw07_Facts.j1 k x0 x3 x4 false)
def stratumlaw07_Facts.j1 : Nat → List (S139) → List (S139) → Int → Bool → Option ((List (S139)))
  | 0, _, _, _, _ => none
  | k + 1, x0, x3, x4, x14 => if x14 = true then (if 0 ≤ x4 then (if x4 < (x0.length : Int) then (stratumlaw07_Facts.l1 k x0 x3 x4 0 ([] : List Int) ((iV x0 x4).f1)) else (none)) else (none)) else (some x3)
def stratumlaw07_Facts.l1 : Nat → List (S139) → List (S139) → Int → Int → List Int → Int → Option ((List (S139)))
  | 0, _, _, _, _, _, _ => none
  | k + 1, x0, x3, x4, x6, x178000, x178001 => if 0 ≤ x4 then (if x4 < (x0.length : Int) then (if x6 < (((iV x0 x4).f0).length : Int) then (if x6 < 4 then (if 0 ≤ x6 then (if x178000.length < 17592186044416 then (stratumlaw07_Facts.l1 k x0 x3 x4 (wrap64 (x6 + 1)) (x178000 ++ [(mx (rd ((iV x0 x4).f0) x6) 0) % 10000]) x178001) else (none)) else (none)) else (if x3.length < 4398046511104 then (stratumlaw07_Facts.l0 k x0 (x3 ++ [(⟨x178000, x178001⟩ : S139)]) (wrap64 (x4 + 1))) else (none))) else (if x3.length < 4398046511104 then (stratumlaw07_Facts.l0 k x0 (x3 ++ [(⟨x178000, x178001⟩ : S139)]) (wrap64 (x4 + 1))) else (none))) else (none)) else (none)
end
def stratumlaw07_Facts.f (k : Nat) (l0 : List (S139)) : Option ((List (S139))) := stratumlaw07_Facts.l0 k l0 ([] : List (S139)) 0
def stratumlaw07_Facts.B9 : List Nat := [0, 1, 0, 0, 12, 28, 60, 0, 252, 508, 1020, 2044, 4092, 8191, 16383, 32767]
end Go.Proofs.YtgfkgppomaapiaaDoor.K
end

section
namespace Go.Proofs.YtgfkgppomaapiaaDoor.K
open Go.RowKit Go.Proofs.YtgfkgppomaapiaaDoorW.PrintWords Go.Proofs.YtgfkgppomaapiaaDoorW.PrintLast Go.Proofs.YtgfkgppomaapiaaDoorW.PrintMore
mutual
def stratumlaw07_Make.l0 : Nat → Int → Int → List (S139) → List Int → Int → Int → List (S86) → List Int → Int → Int → Int → Int → Int → Int → Int → Option (Int × Int × Int × List Int × (List (S139)) × Int × (List (S98)) × Int × Int × (List (S86)))
  | 0, _, _, _, _, _, _, _, _, _, _, _, _, _, _, _ => none
  | k + 1, x2, x3, x4, x5, x6, x7, x8, x20, x21, x189000, x189001, x189002, x189005, x189007, x189008 => if x21 < 6 then (if 0 ≤ (IntKind.u64.wrap (x21)) then (if (Go.bits .and .u8 (shr .u8 x3 (IntKind.u64.wrap (x21))) 1) = 1 then (if x20.length < 17592186044416 then (stratumlaw07_Make.l0 k x2 x3 x4 x5 x6 x7 x8 (x20 ++ [x21]) (wrap64 (x21 + 1)) x189000 x189001 x189002 x189005 x189007 x189008) else (none)) else (stratumlaw07_Make.l0 k x2 x3 x4 x5 x6 x7 x8 x20 (wrap64 (x21 + 1)) x189000 x189001 x189002 x189005 x189007 x189008)) else (none)) else (if x189000 = 1 then ((stratumlaw07_Facts.f k x4).bind fun t192 => (some (x189000, x189001, x189002, x20, t192, x189005, ([] : List (S98)), x189007, x189008, ([] : List (S86))))) else (if x189000 = 2 then (some (x189000, x189001, x2, x20, ([] : List (S139)), x189005, ([] : List (S98)), x189007, x189008, ([] : List (S86)))) else (if x189000 = 6 then (stratumlaw07_Make.l1 k x5 0 x189000 0 x189002 x2 ([] : List (S98)) x189007 x189008) else (if x189000 = 7 then (stratumlaw07_Make.l2 k x8 0 0 x189000 x189001 x189002 x189005 (Int.tmod (wrap64 (x6)) 10001) (Int.tmod (wrap64 (x7)) 10001) ([] : List (S86))) else (some (x189000, x189001, x189002, ([] : List Int), ([] : List (S139)), x189005, ([] : List (S98)), x189007, x189008, ([] : List (S86))))))))
def stratumlaw07_Make.l1 : Nat → List Int → Int → Int → Int → Int → Int → List (S98) → Int → Int → Option (Int × Int × Int × List Int × (List (S139)) × Int × (List (S98)) × Int × Int × (List (S86)))
  | 0, _, _, _, _, _, _, _, _, _ => none
  | k + 1, x5, x22, x189000, x189001, x189002, x189005, x189006, x189007, x189008 => if x22 < (x5.length : Int) then (if x22 < 40 then (if 0 ≤ x22 then (if x189006.length < 8796093022208 then (stratumlaw07_Make.l1 k x5 (wrap64 (x22 + 1)) x189000 x189001 x189002 x189005 (x189006 ++ [(⟨Int.tmod (wrap64 (rd x5 x22)) 10000, Int.tmod (wrap64 (rd x5 x22)) 6⟩ : S98)]) x189007 x189008) else (none)) else (none)) else (some (x189000, x189001, x189002, ([] : List Int), ([] : List (S139)), x189005, x189006, x189007, x189008, ([] : List (S86))))) else (some (x189000, x189001, x189002, ([] : List Int), ([] : List (S139)), x189005, x189006, x189007, x189008, ([] : List (S86))))
def stratumlaw07_Make.l2 : Nat → List (S86) → Int → Int → Int → Int → Int → Int → Int → Int → List (S86) → Option (Int × Int × Int × List Int × (List (S139)) × Int × (List (S98)) × Int × Int × (List (S86)))
  | 0, _, _, _, _, _, _, _, _, _, _ => none
  | k + 1, x8, x23, x24, x189000, x189001, x189002, x189005, x189007, x189008, x189009 => if x24 < (x8.length : Int) then (if x24 < 50 then (if 0 ≤ x24 then ((stratumlaw07_Facts.f k ((iP x8 x24).f1)).bind fun t202 => (if x189009.length < 4398046511104 then (stratumlaw07_Make.l2 k x8 ((x23 + (1 + (Int.tmod ((iP x8 x24).f0) 1000))) % 4294967296) (wrap64 (x24 + 1)) x189000 x189001 x189002 x189005 x189007 x189008 (x189009 ++ [(⟨(x23 + (1 + (Int.tmod ((iP x8 x24).f0) 1000))) % 4294967296, t202⟩ : S86)])) else (none))) else (none)) else (some (x189000, x189001, x189002, ([] : List Int), ([] : List (S139)), x189005, ([] : List (S98)), x189007, x189008, x189009))) else (some (x189000, x189001, x189002, ([] : List Int), ([] : List (S139)), x189005, ([] : List (S98)), x189007, x189008, x189009))
end
def stratumlaw07_Make.f (k : Nat) (a0 : Int) (a1 : Int) (a2 : Int) (a3 : Int) (l4 : List (S139)) (l5 : List Int) (a6 : Int) (a7 : Int) (l8 : List (S86)) : Option (Int × Int × Int × List Int × (List (S139)) × Int × (List (S98)) × Int × Int × (List (S86))) := stratumlaw07_Make.l0 k a2 a3 l4 l5 a6 a7 l8 ([] : List Int) 0 ((1 + (Int.tmod a0 7)) % 256) a1 0 0 0 0
end Go.Proofs.YtgfkgppomaapiaaDoor.K
end

section
namespace Go.Proofs.YtgfkgppomaapiaaDoor.K
open Go.RowKit Go.Proofs.YtgfkgppomaapiaaDoorW.PrintWords Go.Proofs.YtgfkgppomaapiaaDoorW.PrintLast Go.Proofs.YtgfkgppomaapiaaDoorW.PrintMore
def stratumref07_SameInts.l0 : Nat → List Int → List Int → Int → Option (Bool)
  | 0, _, _, _ => none
  | k + 1, x0, x1, x5 => if x5 < (x0.length : Int) then (if 0 ≤ x5 then (if x5 < (x1.length : Int) then (if (rd x0 x5) = (rd x1 x5) then (stratumref07_SameInts.l0 k x0 x1 (wrap64 (x5 + 1))) else (some false)) else (none)) else (none)) else (some true)
def stratumref07_SameInts.f (k : Nat) (l0 : List Int) (l1 : List Int) : Option (Bool) := if (l0.length : Int) = (l1.length : Int) then (stratumref07_SameInts.l0 k l0 l1 0) else (some false)
set_option maxHeartbeats 8000000 in
set_option maxRecDepth 100000 in
theorem stratumref07_SameInts.calls (k : Nat) (A0 : Option Addr) (c0 : Nat) (l0 : List Int) (A1 : Option Addr) (c1 : Nat) (l1 : List Int) (r : Bool) (w : World) (hr0 : Kd.C (Kd.int .i64) w A0 l0.length l0) (hc0 : l0.length ≤ c0) (hr1 : Kd.C (Kd.int .i64) w A1 l1.length l1) (hc1 : l1.length ≤ c1) (h : stratumref07_SameInts.f k l0 l1 = some r) :
    Calls Tryd.prog 35 #[.slice A0 l0.length c0, .slice A1 l1.length c1] w fun e w' => e = .returned (.bool r) ∧ iW w w' := by
  have HR0 := iC.mk hr0
  have HC0 := iC.mk hc0
  clear hr0 hc0
  have HR1 := iC.mk hr1
  have HC1 := iC.mk hc1
  clear hr1 hc1
  have H : (if (l0.length : Int) = (l1.length : Int) then (stratumref07_SameInts.l0 k l0 l1 0) else (some false)) = some r := h
  clear h
  by_cases c3 : (l0.length : Int) = (l1.length : Int)
  · rw [if_pos c3] at H
    have c3b0 : ((l0.length : Int) == (l1.length : Int)) = true := beq_iff_eq.mpr c3
    have c3b1 : ((l0.length : Int) != (l1.length : Int)) = false := bne_eq_false_iff_eq.mpr c3
    have c3b2 : (l0.length == l1.length) = true := by first | simpa using c3 | (simp at c3 ⊢; omega)
    clear c3
    have H' := iC.mk H
    clear H
    go_enter Tryd.func35, Tryd.ntmps35
    go_wp2
    repeat (go_quiet (fail); try go_wp2)
    go_loopg [5] k (fun kq v5 w' => ∃ (x5_1 : Int), v5 = .int .i64 x5_1 ∧ iC (stratumref07_SameInts.l0 kq l0 l1 x5_1 = some r) ∧ iC (kq ≤ k) ∧ iW w w')
    case atStart => exact ⟨(0), (by first | rfl | (simp; done) | (simp [*]; done)), H', ⟨Nat.le_refl _⟩, by repeat (first | exact iW.refl _ | apply iW.step)⟩
    case round =>
      clear H'
      try clear c1
      try clear p2
      try clear c3
      try clear c3b0
      try clear c3b1
      try clear c3b2
      obtain ⟨x5_1, rfl, HA, HK1, ⟨m1, rfl⟩⟩ := hrel
      cases gk with
      | zero => exact absurd HA.out (by simp [stratumref07_SameInts.l0])
      | succ k1 =>
        have H := HA.out
        clear HA
        simp only [stratumref07_SameInts.l0] at H
        by_cases c4 : x5_1 < (l0.length : Int)
        · rw [if_pos c4] at H
          have c4b0 : decide (x5_1 < (l0.length : Int)) = true := decide_eq_true c4
          clear c4
          by_cases c5 : 0 ≤ x5_1
          · rw [if_pos c5] at H
            have c5b0 : decide (0 ≤ x5_1) = true := decide_eq_true c5
            clear c5
            by_cases c6 : x5_1 < (l1.length : Int)
            · rw [if_pos c6] at H
              have c6b0 : decide (x5_1 < (l1.length : Int)) = true := decide_eq_true c6
              clear c6
              by_cases c7 : (rd l0 x5_1) = (rd l1 x5_1)
              · rw [if_pos c7] at H
                have c7b0 : ((rd l0 x5_1) == (rd l1 x5_1)) = true := beq_iff_eq.mpr c7
                have c7b1 : ((rd l0 x5_1) != (rd l1 x5_1)) = false := bne_eq_false_iff_eq.mpr c7
                clear c7
                have H' := iC.mk H
                clear H
                have p208 : 0 ≤ (x5_1 : Int) := of_decide_eq_true asm_
                have q208 : x5_1 < (l0.length : Int) := of_decide_eq_true asm_
                obtain ⟨ad208, e208, hx208_0⟩ := Kd.at_int HR0.out x5_1 p208 q208
                cases e208
                replace p208 := eq_true p208
                replace q208 := eq_true q208
                have p209 : 0 ≤ (x5_1 : Int) := of_decide_eq_true asm_
                have q209 : x5_1 < (l1.length : Int) := of_decide_eq_true asm_
                obtain ⟨ad209, e209, hx209_0⟩ := Kd.at_int HR1.out x5_1 p209 q209
                cases e209
                replace p209 := eq_true p209
                replace q209 := eq_true q209
                go_wp2
                repeat (go_quiet (fail); try go_wp2)
                go_roundg k1
                case measure => have := HK1.out; omega
                case rel => exact ⟨(wrap64 (x5_1 + 1)), (by first | rfl | (simp; done) | (simp [*]; done)), H', ⟨by have := HK1.out; omega⟩, by repeat (first | exact iW.refl _ | apply iW.step)⟩
              · rw [if_neg c7] at H
                have c7b0 : ((rd l0 x5_1) == (rd l1 x5_1)) = false := beq_eq_false_iff_ne.mpr c7
                have c7b1 : ((rd l0 x5_1) != (rd l1 x5_1)) = true := bne_iff_ne.mpr c7
                obtain rfl := Option.some.inj H
                have p208 : 0 ≤ (x5_1 : Int) := of_decide_eq_true asm_
                have q208 : x5_1 < (l0.length : Int) := of_decide_eq_true asm_
                obtain ⟨ad208, e208, hx208_0⟩ := Kd.at_int HR0.out x5_1 p208 q208
                cases e208
                replace p208 := eq_true p208
                replace q208 := eq_true q208
                have p209 : 0 ≤ (x5_1 : Int) := of_decide_eq_true asm_
                have q209 : x5_1 < (l1.length : Int) := of_decide_eq_true asm_
                obtain ⟨ad209, e209, hx209_0⟩ := Kd.at_int HR1.out x5_1 p209 q209
                cases e209
                replace p209 := eq_true p209
                replace q209 := eq_true q209
                go_wp2
                repeat (go_quiet (fail); try go_wp2)
                go_ret
                exact ⟨by first | rfl | (simp; done) | (simp [*]; done), by repeat (first | exact iW.refl _ | apply iW.step)⟩
            · rw [if_neg c6] at H
              exact absurd H (by simp)
          · rw [if_neg c5] at H
            exact absurd H (by simp)
        · rw [if_neg c4] at H
          have c4b0 : decide (x5_1 < (l0.length : Int)) = false := decide_eq_false c4
          clear c4
          obtain rfl := Option.some.inj H
          go_wp2
          repeat (go_quiet (fail); try go_wp2)
          go_ret
          exact ⟨by first | rfl | (simp; done) | (simp [*]; done), by repeat (first | exact iW.refl _ | apply iW.step)⟩
  · rw [if_neg c3] at H
    have c3b0 : ((l0.length : Int) == (l1.length : Int)) = false := beq_eq_false_iff_ne.mpr c3
    have c3b1 : ((l0.length : Int) != (l1.length : Int)) = true := bne_iff_ne.mpr c3
    have c3b2 : (l0.length == l1.length) = false := by first | simpa using c3 | (simp at c3 ⊢; omega)
    obtain rfl := Option.some.inj H
    go_enter Tryd.func35, Tryd.ntmps35
    go_wp2
    repeat (go_quiet (fail); try go_wp2)
    go_ret
    exact ⟨by first | rfl | (simp; done) | (simp [*]; done), by repeat (first | exact iW.refl _ | apply iW.step)⟩
end Go.Proofs.YtgfkgppomaapiaaDoor.K
end

section
namespace Go.Proofs.YtgfkgppomaapiaaDoor.K
open Go.RowKit Go.Proofs.YtgfkgppomaapiaaDoorW.PrintWords Go.Proofs.YtgfkgppomaapiaaDoorW.PrintLast Go.Proofs.YtgfkgppomaapiaaDoorW.PrintMore
def stratumref07_SameFacts.f (k : Nat) (l0 : List (S139)) (l1 : List (S139)) : Option (Bool) := (stratumref07_Facts.f k ([] : List Int) l0).bind fun t210 => ((stratumref07_Facts.f k ([] : List Int) l1).bind fun t213 => (some ((strOfNums t210).toList == (strOfNums t213).toList)))
def stratumref07_SameFacts.T1 : Bool × List (List Nat × List Nat) := (true, [([], []), ([0], [0]), ([1], [1]), ([], []), ([3, 1], [3]), ([4], [4]), ([2, 5], [2, 5]), ([6, 4, 0, 1, 2, 3, 4, 5, 6], [6])])
def stratumref07_SameFacts.B1 : List Nat := [0, 1, 3, 0, 11, 27, 63, 127]
theorem stratumref07_SameFacts.tab1 : rtab .any (opsOf Tryd.f76 1) = stratumref07_SameFacts.T1 := by kernel_rfl
theorem stratumref07_SameFacts.bits1 : mW stratumref07_SameFacts.T1.2 stratumref07_SameFacts.B1 = true := by kernel_rfl
set_option maxHeartbeats 8000000 in
set_option maxRecDepth 100000 in
theorem stratumref07_SameFacts.calls (k : Nat) (A0 : Option Addr) (c0 : Nat) (l0 : List (S139)) (A1 : Option Addr) (c1 : Nat) (l1 : List (S139)) (r : Bool) (w : World) (hr0 : Kd.C k139 w A0 l0.length l0) (hc0 : l0.length ≤ c0) (hr1 : Kd.C k139 w A1 l1.length l1) (hc1 : l1.length ≤ c1) (h : stratumref07_SameFacts.f k l0 l1 = some r) :
    Calls Tryd.prog 76 #[.slice A0 l0.length c0, .slice A1 l1.length c1] w fun e w' => e = .returned (.bool r) ∧ Below w.heap.size w w' := by
  have HR0 := iC.mk hr0
  have HC0 := iC.mk hc0
  clear hr0 hc0
  have HR1 := iC.mk hr1
  have HC1 := iC.mk hc1
  clear hr1 hc1
  have HB := iC.mk (Below.refl w.heap.size w)
  have H : ((stratumref07_Facts.f k ([] : List Int) l0).bind fun t210 => ((stratumref07_Facts.f k ([] : List Int) l1).bind fun t213 => (some ((strOfNums t210).toList == (strOfNums t213).toList)))) = some r := h
  clear h
  replace H := Option.bind_eq_some_iff.mp H
  obtain ⟨t210, A30, H⟩ := H
  replace H : ((stratumref07_Facts.f k ([] : List Int) l1).bind fun t213 => (some ((strOfNums t210).toList == (strOfNums t213).toList))) = some r := H
  have A3 := iC.mk A30
  clear A30
  replace H := Option.bind_eq_some_iff.mp H
  obtain ⟨t213, A40, H⟩ := H
  replace H : (some ((strOfNums t210).toList == (strOfNums t213).toList)) = some r := H
  have A4 := iC.mk A40
  clear A40
  obtain rfl := Option.some.inj H
  go_enter Tryd.func76, Tryd.ntmps76
  try go_wp2
  have n0_ := iC.mk (iH HB.out)
  clear HB
  have HB := n0_
  clear n0_
  refine uM (n := 8) (S := fun w' => True) (ds := []) #[false, false, false, false, false, false, false, false] (by kernel_rfl) rfl rfl trivial (fun hHeld => ?_); refine nJ stratumref07_SameFacts.tab1 stratumref07_SameFacts.bits1 (fun HT_ HW_ => ?_)
  generalize w.drew = w5 at HB hHeld ⊢
  refine jP (i := 0) (N := some 5) (v := ?_) (a' := ?_) #[true, false, false, false, false, false, false, false] rfl rfl (jC HT_.out (by kernel_rfl)) (fun _ _ _ h => h) (Or.inl ⟨by rfl, ?_⟩) ?_ ?_
  rotate_left
  · intro w'
    go_simp
    with_reducible rfl
  rotate_left
  · simp only [Act.put, List.setIfInBounds_toArray, List.set_cons_zero, List.set_cons_succ, iY, jB]
    rfl
  refine jP (i := 3) (N := some 8) (v := ?_) (a' := ?_) #[true, false, false, true, false, false, false, false] rfl rfl (jC HT_.out (by kernel_rfl)) (fun _ _ _ h => h) (Or.inl ⟨by rfl, ?_⟩) ?_ ?_
  rotate_left
  · intro w'
    go_simp
    with_reducible rfl
  rotate_left
  · simp only [Act.put, List.setIfInBounds_toArray, List.set_cons_zero, List.set_cons_succ, iY, jB]
    rfl
  refine one_ (i := 1) (N := some 6) #[true, true, false, true, false, false, false, false] rfl rfl (mJ HT_.out (by kernel_rfl)) (by decide) (fun K hK => ?_)
  refine rE Tryd.func59 (by kernel_rfl) rfl #[.slice none 0 0, .slice A0 l0.length c0] (by rfl) rfl rfl (by (try simp only [List.map_toArray, List.map_cons, List.map_nil]); first | done | rfl | (simp only [List.length_drop, List.length_take]; rfl)) ?_
  refine (stratumref07_Facts.calls k (fun k_ => some k_ = (.slice none 0 0 : Value).ownBlock) (.slice none 0 0) ([] : List Int) _ _ l0 t210 w _ ?side1 ?side2 ?side3 ?side4 A3.out).mono ?_
  (case side1 => repeat (first | (with_reducible first | exact HB.out | apply iF | apply iG | apply iH) | exact HB.out))
  (case side2 => exact Kd.R_nil _ _ _ _ _)
  (case side3 => exact Kd.C_kept_came pG HR0.out hb_ (fun k_ hs_ => (fun e_ => by simp [Value.ownBlock] at e_) hs_))
  (case side4 => exact HC0.out)
  rintro e w6 ⟨v211, rfl, ho0, hb, hkp⟩
  refine ⟨_, rfl, ?_⟩
  have n0_ := iC.mk (Kd.R_mono (ok' := fun k_ => True) ho0 (fun k_ hk_ => trivial))
  have n1_ := iC.mk (hb)
  clear HB
  have HO212 := n0_
  have HB := n1_
  clear n0_ n1_
  (try clear hb)
  (try clear hkp)
  (try clear ho0)
  refine hK.out _ _ trivial (fun hHeld => ?_)
  clear hK K
  refine lK (a' := ?_) ?_ ?_
  rotate_left
  · show Act.put _ (some 6) _ = _
    simp only [Act.put, List.setIfInBounds_toArray, List.set_cons_zero, List.set_cons_succ, iY, jB]
    rfl
  refine U9 (σ := Value) 2 #[true, true, true, true, true, true, false, false] (fun s_ => [(7, .string (strOfNums t210)), (9, s_), (10, .string (strOfNums t213))]) (fun s_ w' => (Kd.R (Kd.int .u8) 5 w' w.heap.size (fun k_ => some k_ ≠ (s_ : Value).ownBlock) v211 t210) ∧ (Kd.R (Kd.int .u8) 5 w' w.heap.size (fun k_ => some k_ ≠ (v211 : Value).ownBlock) s_ t213) ∧ (Below w.heap.size w w')) ?_ ?_
  rotate_left
  · intro hCont
    refine two_ (i := 2) (j := 4) (Ni := some 7) (Nj := some 9) #[true, true, true, true, false, false, false, false] #[true, true, false, true, true, false, false, false] rfl rfl rfl rfl (JU HT_.out (by kernel_rfl)) (by decide) (by decide) (fun K hK => ?_) (fun K hK => ?_)
    · skip
      have hcv7 := kK (P := Tryd.prog) Tryd.underlying33 Tryd.underlying5 Tryd.underlying9 (Kd.own_of_R HO212.out)
      refine kG (w1 := ?_) (v := ?_) (by rfl) rfl ?_ ?_
      rotate_left 2
      · go_simp
        constructor
        · rfl
        · rfl
      clear hcv7
      refine hK.out _ _ trivial (fun hHeld => ?_)
      clear hK K
      refine lK (a' := ?_) ?_ ?_
      rotate_left
      · show Act.put _ (some 7) _ = _
        simp only [Act.put, List.setIfInBounds_toArray, List.set_cons_zero, List.set_cons_succ, iY, jB]
        rfl
      refine one_ (i := 4) (N := some 9) #[true, true, true, true, true, false, false, false] rfl rfl (mJ HT_.out (by kernel_rfl)) (by decide) (fun K hK => ?_)
      refine rE Tryd.func59 (by kernel_rfl) rfl #[.slice none 0 0, .slice A1 l1.length c1] (by rfl) rfl rfl (by (try simp only [List.map_toArray, List.map_cons, List.map_nil]); first | done | rfl | (simp only [List.length_drop, List.length_take]; rfl)) ?_
      refine (stratumref07_Facts.calls k (fun k_ => some k_ = (.slice none 0 0 : Value).ownBlock) (.slice none 0 0) ([] : List Int) _ _ l1 t213 w _ ?side1 ?side2 ?side3 ?side4 A4.out).mono ?_
      (case side1 => repeat (first | (with_reducible first | exact HB.out | apply iF | apply iG | apply iH) | exact HB.out))
      (case side2 => exact Kd.R_nil _ _ _ _ _)
      (case side3 => exact Kd.C_kept_came pG HR1.out hb_ (fun k_ hs_ => (fun e_ => by simp [Value.ownBlock] at e_) hs_))
      (case side4 => exact HC1.out)
      rintro e w8 ⟨v214, rfl, ho0, hb, hkp⟩
      refine ⟨_, rfl, ?_⟩
      have n0_ := iC.mk (Kd.R_mono (ok' := fun k_ => some k_ ≠ (v214 : Value).ownBlock) (Kd.R_keptB (HO212.out) hkp (fun k_ hk_ hs_ => (fun e_ => by simp [Value.ownBlock] at e_) hs_)) (fun k_ hk_ => fun e_ => Or.elim (ho0.1 k_ e_.symm) (fun hs_ => hk_.2.1 hs_) (fun hn_ => Nat.not_le.2 hk_.2.2 hn_)))
      have n1_ := iC.mk (Kd.R_mono (ok' := fun k_ => some k_ ≠ (v211 : Value).ownBlock) ho0 (fun k_ hk_ => Or.elim hk_ (fun hs_ => absurd hs_ (by simp [Value.ownBlock])) (fun hn_ => (Kd.fresh' (Kd.R_lt (by (with_reducible repeat (first | apply Kd.R_alloc | apply Kd.R_drewN | apply Kd.R_drew)); exact HO212.out)) k_ hn_))))
      have n2_ := iC.mk (hb)
      clear HO212
      clear HB
      have HO212 := n0_
      have HO215 := n1_
      have HB := n2_
      clear n0_ n1_ n2_
      (try clear hb)
      (try clear hkp)
      (try clear ho0)
      refine hK.out _ _ trivial (fun hHeld => ?_)
      clear hK K
      refine lK (a' := ?_) ?_ ?_
      rotate_left
      · show Act.put _ (some 9) _ = _
        simp only [Act.put, List.setIfInBounds_toArray, List.set_cons_zero, List.set_cons_succ, iY, jB]
        rfl
      refine one_ (i := 5) (N := some 10) #[true, true, true, true, true, true, false, false] rfl rfl (mJ HT_.out (by kernel_rfl)) (by decide) (fun K hK => ?_)
      have hcv9 := kK (P := Tryd.prog) Tryd.underlying33 Tryd.underlying5 Tryd.underlying9 (Kd.own_of_R HO215.out)
      refine kG (w1 := ?_) (v := ?_) (by rfl) rfl ?_ ?_
      rotate_left 2
      · go_simp
        constructor
        · rfl
        · rfl
      clear hcv9
      refine hK.out _ _ trivial (fun hHeld => ?_)
      clear hK K
      refine lK (a' := ?_) ?_ ?_
      rotate_left
      · show Act.put _ (some 10) _ = _
        simp only [Act.put, List.setIfInBounds_toArray, List.set_cons_zero, List.set_cons_succ, iY, jB]
        rfl
      exact lK (by simp only [oO, Act.put, List.setIfInBounds_toArray, List.set_cons_zero, List.set_cons_succ]) (hCont (v214) _ ⟨(by (with_reducible repeat (first | apply Kd.R_alloc | apply Kd.R_drewN | apply Kd.R_drew)); exact HO212.out), (by (with_reducible repeat (first | apply Kd.R_alloc | apply Kd.R_drewN | apply Kd.R_drew)); exact HO215.out), hb_⟩)
    · skip
      refine rE Tryd.func59 (by kernel_rfl) rfl #[.slice none 0 0, .slice A1 l1.length c1] (by rfl) rfl rfl (by (try simp only [List.map_toArray, List.map_cons, List.map_nil]); first | done | rfl | (simp only [List.length_drop, List.length_take]; rfl)) ?_
      refine (stratumref07_Facts.calls k (fun k_ => some k_ = (.slice none 0 0 : Value).ownBlock) (.slice none 0 0) ([] : List Int) _ _ l1 t213 w _ ?side1 ?side2 ?side3 ?side4 A4.out).mono ?_
      (case side1 => repeat (first | (with_reducible first | exact HB.out | apply iF | apply iG | apply iH) | exact HB.out))
      (case side2 => exact Kd.R_nil _ _ _ _ _)
      (case side3 => exact Kd.C_kept_came pG HR1.out hb_ (fun k_ hs_ => (fun e_ => by simp [Value.ownBlock] at e_) hs_))
      (case side4 => exact HC1.out)
      rintro e w7 ⟨v214, rfl, ho0, hb, hkp⟩
      refine ⟨_, rfl, ?_⟩
      have n0_ := iC.mk (Kd.R_mono (ok' := fun k_ => some k_ ≠ (v214 : Value).ownBlock) (Kd.R_keptB (HO212.out) hkp (fun k_ hk_ hs_ => (fun e_ => by simp [Value.ownBlock] at e_) hs_)) (fun k_ hk_ => fun e_ => Or.elim (ho0.1 k_ e_.symm) (fun hs_ => hk_.2.1 hs_) (fun hn_ => Nat.not_le.2 hk_.2.2 hn_)))
      have n1_ := iC.mk (Kd.R_mono (ok' := fun k_ => some k_ ≠ (v211 : Value).ownBlock) ho0 (fun k_ hk_ => Or.elim hk_ (fun hs_ => absurd hs_ (by simp [Value.ownBlock])) (fun hn_ => (Kd.fresh' (Kd.R_lt (by (with_reducible repeat (first | apply Kd.R_alloc | apply Kd.R_drewN | apply Kd.R_drew)); exact HO212.out)) k_ hn_))))
      have n2_ := iC.mk (hb)
      clear HO212
      clear HB
      have HO212 := n0_
      have HO215 := n1_
      have HB := n2_
      clear n0_ n1_ n2_
      (try clear hb)
      (try clear hkp)
      (try clear ho0)
      refine hK.out _ _ trivial (fun hHeld => ?_)
      clear hK K
      refine lK (a' := ?_) ?_ ?_
      rotate_left
      · show Act.put _ (some 9) _ = _
        simp only [Act.put, List.setIfInBounds_toArray, List.set_cons_zero, List.set_cons_succ, iY, jB]
        rfl
      refine two_ (i := 2) (j := 5) (Ni := some 7) (Nj := some 10) #[true, true, true, true, true, false, false, false] #[true, true, false, true, true, true, false, false] rfl rfl rfl rfl (JU HT_.out (by kernel_rfl)) (by decide) (by decide) (fun K hK => ?_) (fun K hK => ?_)
      · skip
        have hcv8 := kK (P := Tryd.prog) Tryd.underlying33 Tryd.underlying5 Tryd.underlying9 (Kd.own_of_R HO212.out)
        refine kG (w1 := ?_) (v := ?_) (by rfl) rfl ?_ ?_
        rotate_left 2
        · go_simp
          constructor
          · rfl
          · rfl
        clear hcv8
        refine hK.out _ _ trivial (fun hHeld => ?_)
        clear hK K
        refine lK (a' := ?_) ?_ ?_
        rotate_left
        · show Act.put _ (some 7) _ = _
          simp only [Act.put, List.setIfInBounds_toArray, List.set_cons_zero, List.set_cons_succ, iY, jB]
          rfl
        refine one_ (i := 5) (N := some 10) #[true, true, true, true, true, true, false, false] rfl rfl (mJ HT_.out (by kernel_rfl)) (by decide) (fun K hK => ?_)
        have hcv9 := kK (P := Tryd.prog) Tryd.underlying33 Tryd.underlying5 Tryd.underlying9 (Kd.own_of_R HO215.out)
        refine kG (w1 := ?_) (v := ?_) (by rfl) rfl ?_ ?_
        rotate_left 2
        · go_simp
          constructor
          · rfl
          · rfl
        clear hcv9
        refine hK.out _ _ trivial (fun hHeld => ?_)
        clear hK K
        refine lK (a' := ?_) ?_ ?_
        rotate_left
        · show Act.put _ (some 10) _ = _
          simp only [Act.put, List.setIfInBounds_toArray, List.set_cons_zero, List.set_cons_succ, iY, jB]
          rfl
        exact lK (by simp only [oO, Act.put, List.setIfInBounds_toArray, List.set_cons_zero, List.set_cons_succ]) (hCont (v214) _ ⟨(by (with_reducible repeat (first | apply Kd.R_alloc | apply Kd.R_drewN | apply Kd.R_drew)); exact HO212.out), (by (with_reducible repeat (first | apply Kd.R_alloc | apply Kd.R_drewN | apply Kd.R_drew)); exact HO215.out), hb_⟩)
      · skip
        have hcv8 := kK (P := Tryd.prog) Tryd.underlying33 Tryd.underlying5 Tryd.underlying9 (Kd.own_of_R HO215.out)
        refine kG (w1 := ?_) (v := ?_) (by rfl) rfl ?_ ?_
        rotate_left 2
        · go_simp
          constructor
          · rfl
          · rfl
        clear hcv8
        refine hK.out _ _ trivial (fun hHeld => ?_)
        clear hK K
        refine lK (a' := ?_) ?_ ?_
        rotate_left
        · show Act.put _ (some 10) _ = _
          simp only [Act.put, List.setIfInBounds_toArray, List.set_cons_zero, List.set_cons_succ, iY, jB]
          rfl
        refine one_ (i := 2) (N := some 7) #[true, true, true, true, true, true, false, false] rfl rfl (mJ HT_.out (by kernel_rfl)) (by decide) (fun K hK => ?_)
        have hcv9 := kK (P := Tryd.prog) Tryd.underlying33 Tryd.underlying5 Tryd.underlying9 (Kd.own_of_R HO212.out)
        refine kG (w1 := ?_) (v := ?_) (by rfl) rfl ?_ ?_
        rotate_left 2
        · go_simp
          constructor
          · rfl
          · rfl
        clear hcv9
        refine hK.out _ _ trivial (fun hHeld => ?_)
        clear hK K
        refine lK (a' := ?_) ?_ ?_
        rotate_left
        · show Act.put _ (some 7) _ = _
          simp only [Act.put, List.setIfInBounds_toArray, List.set_cons_zero, List.set_cons_succ, iY, jB]
          rfl
        exact lK (by simp only [oO, Act.put, List.setIfInBounds_toArray, List.set_cons_zero, List.set_cons_succ]) (hCont (v214) _ ⟨(by (with_reducible repeat (first | apply Kd.R_alloc | apply Kd.R_drewN | apply Kd.R_drew)); exact HO212.out), (by (with_reducible repeat (first | apply Kd.R_alloc | apply Kd.R_drewN | apply Kd.R_drew)); exact HO215.out), hb_⟩)
  rintro v214 w10 ⟨h0_, h1_, h2_⟩
  have n0_ : iC (Kd.R (Kd.int .u8) 5 w10 w.heap.size (fun k_ => some k_ ≠ (v214 : Value).ownBlock) v211 t210) := ⟨h0_⟩
  have n1_ : iC (Kd.R (Kd.int .u8) 5 w10 w.heap.size (fun k_ => some k_ ≠ (v211 : Value).ownBlock) v214 t213) := ⟨h1_⟩
  have n2_ : iC (Below w.heap.size w w10) := ⟨h2_⟩
  clear HB
  clear h0_ h1_ h2_
  have HO212 := n0_
  have HO215 := n1_
  have HB := n2_
  clear n0_ n1_ n2_
  have hHeld := trivial
  refine lK (a' := ?_) ?_ ?_
  rotate_left
  · simp only [oO, Act.put, List.setIfInBounds_toArray, List.set_cons_zero, List.set_cons_succ]
    rfl
  refine jP (i := 6) (N := some 11) (v := ?_) (a' := ?_) #[true, true, true, true, true, true, true, false] rfl rfl (jC HT_.out (by kernel_rfl)) (fun _ _ _ h => h) (Or.inl ⟨by rfl, ?_⟩) ?_ ?_
  rotate_left
  · intro w'
    go_simp
    with_reducible rfl
  rotate_left
  · simp only [Act.put, List.setIfInBounds_toArray, List.set_cons_zero, List.set_cons_succ, iY, jB]
    rfl
  refine jP (i := 7) (N := some 4) (v := ?_) (a' := ?_) #[true, true, true, true, true, true, true, true] rfl rfl (jC HT_.out (by kernel_rfl)) (fun _ _ _ h => h) (Or.inl ⟨by rfl, ?_⟩) ?_ ?_
  rotate_left
  · intro w'
    go_simp
    with_reducible rfl
  rotate_left
  · simp only [Act.put, List.setIfInBounds_toArray, List.set_cons_zero, List.set_cons_succ, iY, jB]
    rfl
  refine I9 (qB HT_.out (by kernel_rfl)) ?_
  try go_wp2
  go_ret
  exact ⟨by first | rfl | (simp [iM, iO] <;> rfl) | (simp [*, iM, iO] <;> rfl), hb_⟩
end Go.Proofs.YtgfkgppomaapiaaDoor.K
end

section
namespace Go.Proofs.YtgfkgppomaapiaaDoor.K
open Go.RowKit Go.Proofs.YtgfkgppomaapiaaDoorW.PrintWords Go.Proofs.YtgfkgppomaapiaaDoorW.PrintLast Go.Proofs.YtgfkgppomaapiaaDoorW.PrintMore
theorem UV (d : Nat) (w : World) (x0 y0 : Int) (x1 y1 : Int) :
    (Op.equalIn (d + 2) 98 (.agg #[.int .i64 x0, .int .i64 x1]) (.agg #[.int .i64 y0, .int .i64 y1])).run Tryd.prog w = .ok (x0 == y0 && (x1 == y1)) w := by
  refine U4 Tryd.underlying98 (by kernel_rfl) ?_
  refine PO (by rfl) (by go_simp; rfl) (by go_simp; rfl) (by go_simp) ?_
  exact QF (by rfl) (by go_simp; rfl) (by go_simp; rfl) (by go_simp)
end Go.Proofs.YtgfkgppomaapiaaDoor.K
end

section
namespace Go.Proofs.YtgfkgppomaapiaaDoor.K
open Go.RowKit Go.Proofs.YtgfkgppomaapiaaDoorW.PrintWords Go.Proofs.YtgfkgppomaapiaaDoorW.PrintLast Go.Proofs.YtgfkgppomaapiaaDoorW.PrintMore
attribute [local go_sem high] UV
mutual
def stratumref07_SameMap.j0 : Nat → Bool → Int → List (S98) → Int → List (S98) → Option (Bool)
  | 0, _, _, _, _, _ => none
  | k + 1, x19, x217000, x217001, x218000, x218001 => if x19 = true then (some false) else (stratumref07_SameMap.l0 k 0 x217000 x217001 x218000 x218001)
def stratumref07_SameMap.l0 : Nat → Int → Int → List (S98) → Int → List (S98) → Option (Bool)
  | 0, _, _, _, _, _ => none
  | k + 1, x5, x217000, x217001, x218000, x218001 => if x5 < (x217001.length : Int) then (if 0 ≤ x5 then (if x5 < (x218001.length : Int) then (if (!(((jL x217001 x5).f0) == ((jL x218001 x5).f0)) || (!(((jL x217001 x5).f1) == ((jL x218001 x5).f1)))) = true then (some false) else (stratumref07_SameMap.l0 k (wrap64 (x5 + 1)) x217000 x217001 x218000 x218001)) else (none)) else (none)) else (some true)
end
def stratumref07_SameMap.f (k : Nat) (a0_0 : Int) (l0_1 : List (S98)) (a1_0 : Int) (l1_1 : List (S98)) : Option (Bool) := if a0_0 = a1_0 then (stratumref07_SameMap.j0 k ((l0_1.length : Int) != (l1_1.length : Int)) a0_0 l0_1 a1_0 l1_1) else (stratumref07_SameMap.j0 k true a0_0 l0_1 a1_0 l1_1)
set_option maxHeartbeats 8000000 in
set_option maxRecDepth 100000 in
theorem stratumref07_SameMap.calls (k : Nat) (a0_0 : Int) (A0_1 : Option Addr) (c0_1 : Nat) (l0_1 : List (S98)) (a1_0 : Int) (A1_1 : Option Addr) (c1_1 : Nat) (l1_1 : List (S98)) (r : Bool) (w : World) (hr0_1 : Kd.C k98 w A0_1 l0_1.length l0_1) (hc0_1 : l0_1.length ≤ c0_1) (hr1_1 : Kd.C k98 w A1_1 l1_1.length l1_1) (hc1_1 : l1_1.length ≤ c1_1) (h : stratumref07_SameMap.f k a0_0 l0_1 a1_0 l1_1 = some r) :
    Calls Tryd.prog 77 #[.agg #[.int .u32 a0_0, .slice A0_1 l0_1.length c0_1], .agg #[.int .u32 a1_0, .slice A1_1 l1_1.length c1_1]] w fun e w' => e = .returned (.bool r) ∧ Below w.heap.size w w' := by
  have hu27 := Tryd.underlying27
  have hu98 := Tryd.underlying98
  have HR0_1 := iC.mk hr0_1
  have HC0_1 := iC.mk hc0_1
  clear hr0_1 hc0_1
  have HR1_1 := iC.mk hr1_1
  have HC1_1 := iC.mk hc1_1
  clear hr1_1 hc1_1
  have HB := iC.mk (Below.refl w.heap.size w)
  have H : (if a0_0 = a1_0 then (stratumref07_SameMap.j0 k ((l0_1.length : Int) != (l1_1.length : Int)) a0_0 l0_1 a1_0 l1_1) else (stratumref07_SameMap.j0 k true a0_0 l0_1 a1_0 l1_1)) = some r := h
  clear h
  have HC3 := iC.mk H
  clear H
  go_enter Tryd.func77, Tryd.ntmps77
  go_upto_region 1 with (first | ((with_reducible refine jS (N := 2) rfl ?_); (try (refine jX (by rfl) ?_; dsimp only)); refine jI ?hg (N := 2) ?hd (cs := #[.int .u32 a0_0, .slice A0_1 l0_1.length c0_1]) (t := 27) ?hr ?_; (case hd => rfl); (case hg => rfl); (case hr => first | (go_simp; done) | (go_simp; rfl)); intro gb216 hg w4 hbox hb; have n0_ := iC.mk (iI hb_ hb); have n1_ := iC.mk (hbox); have n2_ := iC.mk ((by rw [hg]; exact (iQ hb_) : w.heap.size ≤ gb216)); have n3_ := iC.mk ((by rw [hg]; exact (iQ hb_) : w.heap.size ≤ gb216)); clear HB; have HB := n0_; have BK216 := n1_; have GW216 := n2_; have GE216 := n3_; clear n0_ n1_ n2_ n3_; clear hb hbox hg) | ((with_reducible refine jS (N := 3) rfl ?_); (try (refine jX (by rfl) ?_; dsimp only)); refine jI ?hg (N := 3) ?hd (cs := #[.int .u32 a1_0, .slice A1_1 l1_1.length c1_1]) (t := 27) ?hr ?_; (case hd => rfl); (case hg => rfl); (case hr => first | (go_simp; done) | (go_simp; rfl)); intro gb217 hg w5 hbox hb; have n0_ := iC.mk (jF (g := gb216) (o := .cells #[.int .u32 a0_0, .slice A0_1 l0_1.length c0_1] 27 (0, 0)) (bk_ BK216.out) hb); have n1_ := iC.mk (iI (by repeat (first | (with_reducible first | exact HB.out | apply iF | apply iG | apply iH | refine iJ ?_ GE216.out) | exact HB.out)) hb); have n2_ := iC.mk (hbox); have n3_ := iC.mk ((by rw [hg]; exact (iQ (by repeat (first | (with_reducible first | exact HB.out | apply iF | apply iG | apply iH | refine iJ ?_ GE216.out) | exact HB.out))) : w.heap.size ≤ gb217)); have n4_ := iC.mk ((by rw [hg]; exact (iQ (by repeat (first | (with_reducible first | exact HB.out | apply iF | apply iG | apply iH | refine iJ ?_ GE216.out) | exact HB.out))) : w.heap.size ≤ gb217)); have n5_ := iC.mk ((by rw [hg]; exact Nat.ne_of_lt (iZ (g := gb216) (o := .cells #[.int .u32 a0_0, .slice A0_1 l0_1.length c0_1] 27 (0, 0)) (bk_ BK216.out)) : gb216 ≠ gb217)); have n6_ := iC.mk ((by rw [hg]; exact Nat.ne_of_gt (iZ (g := gb216) (o := .cells #[.int .u32 a0_0, .slice A0_1 l0_1.length c0_1] 27 (0, 0)) (bk_ BK216.out)) : gb217 ≠ gb216)); clear BK216; clear HB; have BK216 := n0_; have HB := n1_; have BK217 := n2_; have GW217 := n3_; have GE217 := n4_; have NB216_217 := n5_; have NB217_216 := n6_; clear n0_ n1_ n2_ n3_ n4_ n5_ n6_; clear hb hbox hg))
  repeat (go_quiet (first | ((with_reducible refine jS (N := 2) rfl ?_); (try (refine jX (by rfl) ?_; dsimp only)); refine jI ?hg (N := 2) ?hd (cs := #[.int .u32 a0_0, .slice A0_1 l0_1.length c0_1]) (t := 27) ?hr ?_; (case hd => rfl); (case hg => rfl); (case hr => first | (go_simp; done) | (go_simp; rfl)); intro gb216 hg w4 hbox hb; have n0_ := iC.mk (iI hb_ hb); have n1_ := iC.mk (hbox); have n2_ := iC.mk ((by rw [hg]; exact (iQ hb_) : w.heap.size ≤ gb216)); have n3_ := iC.mk ((by rw [hg]; exact (iQ hb_) : w.heap.size ≤ gb216)); clear HB; have HB := n0_; have BK216 := n1_; have GW216 := n2_; have GE216 := n3_; clear n0_ n1_ n2_ n3_; clear hb hbox hg) | ((with_reducible refine jS (N := 3) rfl ?_); (try (refine jX (by rfl) ?_; dsimp only)); refine jI ?hg (N := 3) ?hd (cs := #[.int .u32 a1_0, .slice A1_1 l1_1.length c1_1]) (t := 27) ?hr ?_; (case hd => rfl); (case hg => rfl); (case hr => first | (go_simp; done) | (go_simp; rfl)); intro gb217 hg w5 hbox hb; have n0_ := iC.mk (jF (g := gb216) (o := .cells #[.int .u32 a0_0, .slice A0_1 l0_1.length c0_1] 27 (0, 0)) (bk_ BK216.out) hb); have n1_ := iC.mk (iI (by repeat (first | (with_reducible first | exact HB.out | apply iF | apply iG | apply iH | refine iJ ?_ GE216.out) | exact HB.out)) hb); have n2_ := iC.mk (hbox); have n3_ := iC.mk ((by rw [hg]; exact (iQ (by repeat (first | (with_reducible first | exact HB.out | apply iF | apply iG | apply iH | refine iJ ?_ GE216.out) | exact HB.out))) : w.heap.size ≤ gb217)); have n4_ := iC.mk ((by rw [hg]; exact (iQ (by repeat (first | (with_reducible first | exact HB.out | apply iF | apply iG | apply iH | refine iJ ?_ GE216.out) | exact HB.out))) : w.heap.size ≤ gb217)); have n5_ := iC.mk ((by rw [hg]; exact Nat.ne_of_lt (iZ (g := gb216) (o := .cells #[.int .u32 a0_0, .slice A0_1 l0_1.length c0_1] 27 (0, 0)) (bk_ BK216.out)) : gb216 ≠ gb217)); have n6_ := iC.mk ((by rw [hg]; exact Nat.ne_of_gt (iZ (g := gb216) (o := .cells #[.int .u32 a0_0, .slice A0_1 l0_1.length c0_1] 27 (0, 0)) (bk_ BK216.out)) : gb217 ≠ gb216)); clear BK216; clear HB; have BK216 := n0_; have HB := n1_; have BK217 := n2_; have GW217 := n3_; have GE217 := n4_; have NB216_217 := n5_; have NB217_216 := n6_; clear n0_ n1_ n2_ n3_ n4_ n5_ n6_; clear hb hbox hg)); go_upto_region 1 with (first | ((with_reducible refine jS (N := 2) rfl ?_); (try (refine jX (by rfl) ?_; dsimp only)); refine jI ?hg (N := 2) ?hd (cs := #[.int .u32 a0_0, .slice A0_1 l0_1.length c0_1]) (t := 27) ?hr ?_; (case hd => rfl); (case hg => rfl); (case hr => first | (go_simp; done) | (go_simp; rfl)); intro gb216 hg w4 hbox hb; have n0_ := iC.mk (iI hb_ hb); have n1_ := iC.mk (hbox); have n2_ := iC.mk ((by rw [hg]; exact (iQ hb_) : w.heap.size ≤ gb216)); have n3_ := iC.mk ((by rw [hg]; exact (iQ hb_) : w.heap.size ≤ gb216)); clear HB; have HB := n0_; have BK216 := n1_; have GW216 := n2_; have GE216 := n3_; clear n0_ n1_ n2_ n3_; clear hb hbox hg) | ((with_reducible refine jS (N := 3) rfl ?_); (try (refine jX (by rfl) ?_; dsimp only)); refine jI ?hg (N := 3) ?hd (cs := #[.int .u32 a1_0, .slice A1_1 l1_1.length c1_1]) (t := 27) ?hr ?_; (case hd => rfl); (case hg => rfl); (case hr => first | (go_simp; done) | (go_simp; rfl)); intro gb217 hg w5 hbox hb; have n0_ := iC.mk (jF (g := gb216) (o := .cells #[.int .u32 a0_0, .slice A0_1 l0_1.length c0_1] 27 (0, 0)) (bk_ BK216.out) hb); have n1_ := iC.mk (iI (by repeat (first | (with_reducible first | exact HB.out | apply iF | apply iG | apply iH | refine iJ ?_ GE216.out) | exact HB.out)) hb); have n2_ := iC.mk (hbox); have n3_ := iC.mk ((by rw [hg]; exact (iQ (by repeat (first | (with_reducible first | exact HB.out | apply iF | apply iG | apply iH | refine iJ ?_ GE216.out) | exact HB.out))) : w.heap.size ≤ gb217)); have n4_ := iC.mk ((by rw [hg]; exact (iQ (by repeat (first | (with_reducible first | exact HB.out | apply iF | apply iG | apply iH | refine iJ ?_ GE216.out) | exact HB.out))) : w.heap.size ≤ gb217)); have n5_ := iC.mk ((by rw [hg]; exact Nat.ne_of_lt (iZ (g := gb216) (o := .cells #[.int .u32 a0_0, .slice A0_1 l0_1.length c0_1] 27 (0, 0)) (bk_ BK216.out)) : gb216 ≠ gb217)); have n6_ := iC.mk ((by rw [hg]; exact Nat.ne_of_gt (iZ (g := gb216) (o := .cells #[.int .u32 a0_0, .slice A0_1 l0_1.length c0_1] 27 (0, 0)) (bk_ BK216.out)) : gb217 ≠ gb216)); clear BK216; clear HB; have BK216 := n0_; have HB := n1_; have BK217 := n2_; have GW217 := n3_; have GE217 := n4_; have NB216_217 := n5_; have NB217_216 := n6_; clear n0_ n1_ n2_ n3_ n4_ n5_ n6_; clear hb hbox hg)))
  (try simp only [Act.put, List.setIfInBounds_toArray, List.set_cons_zero, List.set_cons_succ])
  go_cut [19] (fun v19 wc => ∃ (kq : Nat) (x19_2 : Bool), v19 = .bool x19_2 ∧ iC (stratumref07_SameMap.j0 kq x19_2 a0_0 l0_1 a1_0 l1_1 = some r) ∧ iC (kq ≤ k) ∧ iC (wc.heap[gb216]? = some (.cells #[.int .u32 a0_0, (.slice A0_1 l0_1.length c0_1)] 27 (0, 0))) ∧ iC (wc.heap[gb217]? = some (.cells #[.int .u32 a1_0, (.slice A1_1 l1_1.length c1_1)] 27 (0, 0))) ∧ iC (Below w.heap.size w wc))
  case first =>
    have H := HC3.out
    clear HC3
    by_cases c6 : a0_0 = a1_0
    · rw [if_pos c6] at H
      have c6b0 : (a0_0 == a1_0) = true := beq_iff_eq.mpr c6
      have c6b1 : (a0_0 != a1_0) = false := bne_eq_false_iff_eq.mpr c6
      clear c6
      (first | rw [c6b0] | (simp only [iY, jB]; rw [c6b0]) | skip)
      have H' := iC.mk H
      clear H
      have hnb7 := NB216_217.out
      have hnc7 := NB217_216.out
      have hcz8_0 : w5.cell? ⟨gb216, 0, none⟩ = some (.int .u32 a0_0) := (iE BK216.out 0).trans rfl
      have hcz8_1 : w5.cell? ⟨gb216, 1, none⟩ = some (.slice A0_1 l0_1.length c0_1) := (iE BK216.out 1).trans rfl
      have hfz8_0 := iD BK216.out 0
      have hfz8_1 := iD BK216.out 1
      have hcz9_0 : w5.cell? ⟨gb217, 0, none⟩ = some (.int .u32 a1_0) := (iE BK217.out 0).trans rfl
      have hcz9_1 : w5.cell? ⟨gb217, 1, none⟩ = some (.slice A1_1 l1_1.length c1_1) := (iE BK217.out 1).trans rfl
      have hfz9_0 := iD BK217.out 0
      have hfz9_1 := iD BK217.out 1
      go_wp2
      repeat (go_quiet (fail); try go_wp2)
      go_meet
      case rel => exact ⟨_, (((l0_1.length : Int) != (l1_1.length : Int))), (by first | rfl | (simp; done) | (simp [*]; done)), H', ⟨by first | omega | exact Nat.le_refl _⟩, ⟨bk_ BK216.out⟩, ⟨bk_ BK217.out⟩, ⟨by repeat (first | (with_reducible first | exact HB.out | apply iF | apply iG | apply iH | refine iJ ?_ GE216.out | refine iJ ?_ GE217.out) | exact HB.out)⟩⟩
    · rw [if_neg c6] at H
      have c6b0 : (a0_0 == a1_0) = false := beq_eq_false_iff_ne.mpr c6
      have c6b1 : (a0_0 != a1_0) = true := bne_iff_ne.mpr c6
      (first | rw [c6b0] | (simp only [iY, jB]; rw [c6b0]) | skip)
      have H' := iC.mk H
      clear H
      have hnb10 := NB216_217.out
      have hnc10 := NB217_216.out
      have hcz11_0 : w5.cell? ⟨gb216, 0, none⟩ = some (.int .u32 a0_0) := (iE BK216.out 0).trans rfl
      have hcz11_1 : w5.cell? ⟨gb216, 1, none⟩ = some (.slice A0_1 l0_1.length c0_1) := (iE BK216.out 1).trans rfl
      have hfz11_0 := iD BK216.out 0
      have hfz11_1 := iD BK216.out 1
      have hcz12_0 : w5.cell? ⟨gb217, 0, none⟩ = some (.int .u32 a1_0) := (iE BK217.out 0).trans rfl
      have hcz12_1 : w5.cell? ⟨gb217, 1, none⟩ = some (.slice A1_1 l1_1.length c1_1) := (iE BK217.out 1).trans rfl
      have hfz12_0 := iD BK217.out 0
      have hfz12_1 := iD BK217.out 1
      go_wp2
      repeat (go_quiet (fail); try go_wp2)
      go_meet
      case rel => exact ⟨_, (true), (by first | rfl | (simp; done) | (simp [*]; done)), H', ⟨by first | omega | exact Nat.le_refl _⟩, ⟨bk_ BK216.out⟩, ⟨bk_ BK217.out⟩, ⟨by repeat (first | (with_reducible first | exact HB.out | apply iF | apply iG | apply iH | refine iJ ?_ GE216.out | refine iJ ?_ GE217.out) | exact HB.out)⟩⟩
  case rest =>
    clear HC3
    try clear c1
    try clear p2
    try clear c6
    try clear c6b0
    try clear c6b1
    try clear c7
    try clear c10
    try clear hcz11_0
    try clear hcz11_1
    try clear hcz12_0
    try clear hcz12_1
    try clear hcz8_0
    try clear hcz8_1
    try clear hcz9_0
    try clear hcz9_1
    try clear hfz11_0
    try clear hfz11_1
    try clear hfz12_0
    try clear hfz12_1
    try clear hfz8_0
    try clear hfz8_1
    try clear hfz9_0
    try clear hfz9_1
    obtain ⟨kq, x19_2, rfl, HA, HJ2, BK216, BK217, HB⟩ := hcut
    cases kq with
    | zero => exact absurd HA.out (by simp [stratumref07_SameMap.j0])
    | succ kj2 =>
      have H := HA.out
      clear HA
      simp only [stratumref07_SameMap.j0] at H
      by_cases c13 : x19_2 = true
      · subst c13
        have H1 : (some false) = some r := by rw [if_pos rfl] at H; exact H
        clear H
        have H := H1
        clear H1
        obtain rfl := Option.some.inj H
        go_wp2
        repeat (go_quiet (fail); try go_wp2)
        go_ret
        exact ⟨by first | rfl | (simp [iM, iO] <;> rfl) | (simp [*, iM, iO] <;> rfl), by repeat (first | (with_reducible first | exact HB.out | apply iF | apply iG | apply iH | refine iJ ?_ GE216.out | refine iJ ?_ GE217.out) | exact HB.out)⟩
      · replace c13 := Bool.eq_false_iff.mpr c13
        subst c13
        have H1 : (stratumref07_SameMap.l0 kj2 0 a0_0 l0_1 a1_0 l1_1) = some r := by rw [if_neg (show ¬ (false = true) by decide)] at H; exact H
        clear H
        have H := H1
        clear H1
        have H' := iC.mk H
        clear H
        go_wp2
        repeat (go_quiet (fail); try go_wp2)
        go_loopg [5] kj2 (fun kq v5 w' => ∃ (x5_2 : Int), v5 = .int .i64 x5_2 ∧ iC (stratumref07_SameMap.l0 kq x5_2 a0_0 l0_1 a1_0 l1_1 = some r) ∧ iC (kq ≤ kj2) ∧ iC (w'.heap[gb216]? = some (.cells #[.int .u32 a0_0, (.slice A0_1 l0_1.length c0_1)] 27 (0, 0))) ∧ iC (w'.heap[gb217]? = some (.cells #[.int .u32 a1_0, (.slice A1_1 l1_1.length c1_1)] 27 (0, 0))) ∧ iC (Below w.heap.size w w'))
        case atStart => exact ⟨(0), (by first | rfl | (simp; done) | (simp [*]; done)), H', ⟨Nat.le_refl _⟩, ⟨bk_ BK216.out⟩, ⟨bk_ BK217.out⟩, ⟨by repeat (first | (with_reducible first | exact HB.out | apply iF | apply iG | apply iH | refine iJ ?_ GE216.out | refine iJ ?_ GE217.out) | exact HB.out)⟩⟩
        case round =>
          clear H'
          try clear c1
          try clear p2
          try clear c6
          try clear c6b0
          try clear c6b1
          try clear c7
          try clear c10
          try clear c13
          try clear hcz11_0
          try clear hcz11_1
          try clear hcz12_0
          try clear hcz12_1
          try clear hcz8_0
          try clear hcz8_1
          try clear hcz9_0
          try clear hcz9_1
          try clear hfz11_0
          try clear hfz11_1
          try clear hfz12_0
          try clear hfz12_1
          try clear hfz8_0
          try clear hfz8_1
          try clear hfz9_0
          try clear hfz9_1
          try clear p2
          obtain ⟨x5_2, rfl, HA, HK2, BK216, BK217, HB⟩ := hrel
          cases gk with
          | zero => exact absurd HA.out (by simp [stratumref07_SameMap.l0])
          | succ k2 =>
            have H := HA.out
            clear HA
            simp only [stratumref07_SameMap.l0] at H
            by_cases c14 : x5_2 < (l0_1.length : Int)
            · rw [if_pos c14] at H
              have c14b0 : decide (x5_2 < (l0_1.length : Int)) = true := decide_eq_true c14
              clear c14
              by_cases c15 : 0 ≤ x5_2
              · rw [if_pos c15] at H
                have c15b0 : decide (0 ≤ x5_2) = true := decide_eq_true c15
                clear c15
                by_cases c16 : x5_2 < (l1_1.length : Int)
                · rw [if_pos c16] at H
                  have c16b0 : decide (x5_2 < (l1_1.length : Int)) = true := decide_eq_true c16
                  clear c16
                  by_cases c17 : (!(((jL l0_1 x5_2).f0) == ((jL l1_1 x5_2).f0)) || (!(((jL l0_1 x5_2).f1) == ((jL l1_1 x5_2).f1)))) = true
                  · rw [if_pos c17] at H
                    have c17b0 : (!(((jL l0_1 x5_2).f0) == ((jL l1_1 x5_2).f0)) || (!(((jL l0_1 x5_2).f1) == ((jL l1_1 x5_2).f1)))) = true := c17
                    clear c17
                    obtain rfl := Option.some.inj H
                    have hnb18 := NB216_217.out
                    have hnc18 := NB217_216.out
                    have hcz19_0 : wr.cell? ⟨gb216, 0, none⟩ = some (.int .u32 a0_0) := (iE BK216.out 0).trans rfl
                    have hcz19_1 : wr.cell? ⟨gb216, 1, none⟩ = some (.slice A0_1 l0_1.length c0_1) := (iE BK216.out 1).trans rfl
                    have hfz19_0 := iD BK216.out 0
                    have hfz19_1 := iD BK216.out 1
                    have p218 : 0 ≤ (x5_2 : Int) := of_decide_eq_true asm_
                    have q218 : x5_2 < (l0_1.length : Int) := of_decide_eq_true asm_
                    obtain ⟨ad218, e218, hx218_0, hx218_1⟩ := lI HR0_1.out x5_2 p218 q218
                    cases e218
                    replace hx218_0 := (HB.out.cell (World.block_lt_of_cell? w _ hx218_0)).trans hx218_0
                    replace hx218_1 := (HB.out.cell (World.block_lt_of_cell? w _ hx218_1)).trans hx218_1
                    replace p218 := eq_true p218
                    replace q218 := eq_true q218
                    have hcz20_0 : wr.cell? ⟨gb217, 0, none⟩ = some (.int .u32 a1_0) := (iE BK217.out 0).trans rfl
                    have hcz20_1 : wr.cell? ⟨gb217, 1, none⟩ = some (.slice A1_1 l1_1.length c1_1) := (iE BK217.out 1).trans rfl
                    have hfz20_0 := iD BK217.out 0
                    have hfz20_1 := iD BK217.out 1
                    have p219 : 0 ≤ (x5_2 : Int) := of_decide_eq_true asm_
                    have q219 : x5_2 < (l1_1.length : Int) := of_decide_eq_true asm_
                    obtain ⟨ad219, e219, hx219_0, hx219_1⟩ := lI HR1_1.out x5_2 p219 q219
                    cases e219
                    replace hx219_0 := (HB.out.cell (World.block_lt_of_cell? w _ hx219_0)).trans hx219_0
                    replace hx219_1 := (HB.out.cell (World.block_lt_of_cell? w _ hx219_1)).trans hx219_1
                    replace p219 := eq_true p219
                    replace q219 := eq_true q219
                    go_wp2
                    repeat (go_quiet (fail); try go_wp2)
                    go_ret
                    exact ⟨by first | rfl | (simp [iM, iO] <;> rfl) | (simp [*, iM, iO] <;> rfl), by repeat (first | (with_reducible first | exact HB.out | apply iF | apply iG | apply iH | refine iJ ?_ GE216.out | refine iJ ?_ GE217.out) | exact HB.out)⟩
                  · rw [if_neg c17] at H
                    have c17b0 : (!(((jL l0_1 x5_2).f0) == ((jL l1_1 x5_2).f0)) || (!(((jL l0_1 x5_2).f1) == ((jL l1_1 x5_2).f1)))) = false := by simpa using c17
                    clear c17
                    have H' := iC.mk H
                    clear H
                    have hnb21 := NB216_217.out
                    have hnc21 := NB217_216.out
                    have hcz22_0 : wr.cell? ⟨gb216, 0, none⟩ = some (.int .u32 a0_0) := (iE BK216.out 0).trans rfl
                    have hcz22_1 : wr.cell? ⟨gb216, 1, none⟩ = some (.slice A0_1 l0_1.length c0_1) := (iE BK216.out 1).trans rfl
                    have hfz22_0 := iD BK216.out 0
                    have hfz22_1 := iD BK216.out 1
                    have p218 : 0 ≤ (x5_2 : Int) := of_decide_eq_true asm_
                    have q218 : x5_2 < (l0_1.length : Int) := of_decide_eq_true asm_
                    obtain ⟨ad218, e218, hx218_0, hx218_1⟩ := lI HR0_1.out x5_2 p218 q218
                    cases e218
                    replace hx218_0 := (HB.out.cell (World.block_lt_of_cell? w _ hx218_0)).trans hx218_0
                    replace hx218_1 := (HB.out.cell (World.block_lt_of_cell? w _ hx218_1)).trans hx218_1
                    replace p218 := eq_true p218
                    replace q218 := eq_true q218
                    have hcz23_0 : wr.cell? ⟨gb217, 0, none⟩ = some (.int .u32 a1_0) := (iE BK217.out 0).trans rfl
                    have hcz23_1 : wr.cell? ⟨gb217, 1, none⟩ = some (.slice A1_1 l1_1.length c1_1) := (iE BK217.out 1).trans rfl
                    have hfz23_0 := iD BK217.out 0
                    have hfz23_1 := iD BK217.out 1
                    have p219 : 0 ≤ (x5_2 : Int) := of_decide_eq_true asm_
                    have q219 : x5_2 < (l1_1.length : Int) := of_decide_eq_true asm_
                    obtain ⟨ad219, e219, hx219_0, hx219_1⟩ := lI HR1_1.out x5_2 p219 q219
                    cases e219
                    replace hx219_0 := (HB.out.cell (World.block_lt_of_cell? w _ hx219_0)).trans hx219_0
                    replace hx219_1 := (HB.out.cell (World.block_lt_of_cell? w _ hx219_1)).trans hx219_1
                    replace p219 := eq_true p219
                    replace q219 := eq_true q219
                    go_wp2
                    repeat (go_quiet (fail); try go_wp2)
                    go_roundg k2
                    case measure => have := HJ2.out; have := HK2.out; omega
                    case rel => exact ⟨(wrap64 (x5_2 + 1)), (by first | rfl | (simp; done) | (simp [*]; done)), H', ⟨by have := HJ2.out; have := HK2.out; omega⟩, ⟨bk_ BK216.out⟩, ⟨bk_ BK217.out⟩, ⟨by repeat (first | (with_reducible first | exact HB.out | apply iF | apply iG | apply iH | refine iJ ?_ GE216.out | refine iJ ?_ GE217.out) | exact HB.out)⟩⟩
                · rw [if_neg c16] at H
                  exact absurd H (by simp)
              · rw [if_neg c15] at H
                exact absurd H (by simp)
            · rw [if_neg c14] at H
              have c14b0 : decide (x5_2 < (l0_1.length : Int)) = false := decide_eq_false c14
              clear c14
              obtain rfl := Option.some.inj H
              have hnb24 := NB216_217.out
              have hnc24 := NB217_216.out
              have hcz25_0 : wr.cell? ⟨gb216, 0, none⟩ = some (.int .u32 a0_0) := (iE BK216.out 0).trans rfl
              have hcz25_1 : wr.cell? ⟨gb216, 1, none⟩ = some (.slice A0_1 l0_1.length c0_1) := (iE BK216.out 1).trans rfl
              have hfz25_0 := iD BK216.out 0
              have hfz25_1 := iD BK216.out 1
              go_wp2
              repeat (go_quiet (fail); try go_wp2)
              go_ret
              exact ⟨by first | rfl | (simp [iM, iO] <;> rfl) | (simp [*, iM, iO] <;> rfl), by repeat (first | (with_reducible first | exact HB.out | apply iF | apply iG | apply iH | refine iJ ?_ GE216.out | refine iJ ?_ GE217.out) | exact HB.out)⟩
end Go.Proofs.YtgfkgppomaapiaaDoor.K
end

section
namespace Go.Proofs.YtgfkgppomaapiaaDoor.K
open Go.RowKit Go.Proofs.YtgfkgppomaapiaaDoorW.PrintWords Go.Proofs.YtgfkgppomaapiaaDoorW.PrintLast Go.Proofs.YtgfkgppomaapiaaDoorW.PrintMore
def stratumref07_SameEntries.f (l0 : List (S86)) (l1 : List (S86)) : Option (Bool) := (stratumref07_Entries.f ([] : List Int) l0).bind fun t220 => ((stratumref07_Entries.f ([] : List Int) l1).bind fun t223 => (some ((strOfNums t220).toList == (strOfNums t223).toList)))
def stratumref07_SameEntries.T1 : Bool × List (List Nat × List Nat) := (true, [([], []), ([0], [0]), ([1], [1]), ([], []), ([3, 1], [3]), ([4], [4]), ([2, 5], [2, 5]), ([6, 4, 0, 1, 2, 3, 4, 5, 6], [6])])
def stratumref07_SameEntries.B1 : List Nat := [0, 1, 3, 0, 11, 27, 63, 127]
theorem stratumref07_SameEntries.tab1 : rtab .any (opsOf Tryd.f78 1) = stratumref07_SameEntries.T1 := by kernel_rfl
theorem stratumref07_SameEntries.bits1 : mW stratumref07_SameEntries.T1.2 stratumref07_SameEntries.B1 = true := by kernel_rfl
set_option maxHeartbeats 8000000 in
set_option maxRecDepth 100000 in
theorem stratumref07_SameEntries.calls (A0 : Option Addr) (c0 : Nat) (l0 : List (S86)) (A1 : Option Addr) (c1 : Nat) (l1 : List (S86)) (r : Bool) (w : World) (hr0 : Kd.C k86 w A0 l0.length l0) (hc0 : l0.length ≤ c0) (hr1 : Kd.C k86 w A1 l1.length l1) (hc1 : l1.length ≤ c1) (h : stratumref07_SameEntries.f l0 l1 = some r) :
    Calls Tryd.prog 78 #[.slice A0 l0.length c0, .slice A1 l1.length c1] w fun e w' => e = .returned (.bool r) ∧ Below w.heap.size w w' := by
  have HR0 := iC.mk hr0
  have HC0 := iC.mk hc0
  clear hr0 hc0
  have HR1 := iC.mk hr1
  have HC1 := iC.mk hc1
  clear hr1 hc1
  have HB := iC.mk (Below.refl w.heap.size w)
  have H : ((stratumref07_Entries.f ([] : List Int) l0).bind fun t220 => ((stratumref07_Entries.f ([] : List Int) l1).bind fun t223 => (some ((strOfNums t220).toList == (strOfNums t223).toList)))) = some r := h
  clear h
  replace H := Option.bind_eq_some_iff.mp H
  obtain ⟨t220, A30, H⟩ := H
  replace H : ((stratumref07_Entries.f ([] : List Int) l1).bind fun t223 => (some ((strOfNums t220).toList == (strOfNums t223).toList))) = some r := H
  have A3 := iC.mk A30
  clear A30
  replace H := Option.bind_eq_some_iff.mp H
  obtain ⟨t223, A40, H⟩ := H
  replace H : (some ((strOfNums t220).toList == (strOfNums t223).toList)) = some r := H
  have A4 := iC.mk A40
  clear A40
  obtain rfl := Option.some.inj H
  go_enter Tryd.func78, Tryd.ntmps78
  try go_wp2
  have n0_ := iC.mk (iH HB.out)
  clear HB
  have HB := n0_
  clear n0_
  refine uM (n := 8) (S := fun w' => True) (ds := []) #[false, false, false, false, false, false, false, false] (by kernel_rfl) rfl rfl trivial (fun hHeld => ?_); refine nJ stratumref07_SameEntries.tab1 stratumref07_SameEntries.bits1 (fun HT_ HW_ => ?_)
  generalize w.drew = w5 at HB hHeld ⊢
  refine jP (i := 0) (N := some 5) (v := ?_) (a' := ?_) #[true, false, false, false, false, false, false, false] rfl rfl (jC HT_.out (by kernel_rfl)) (fun _ _ _ h => h) (Or.inl ⟨by rfl, ?_⟩) ?_ ?_
  rotate_left
  · intro w'
    go_simp
    with_reducible rfl
  rotate_left
  · simp only [Act.put, List.setIfInBounds_toArray, List.set_cons_zero, List.set_cons_succ, iY, jB]
    rfl
  refine jP (i := 3) (N := some 8) (v := ?_) (a' := ?_) #[true, false, false, true, false, false, false, false] rfl rfl (jC HT_.out (by kernel_rfl)) (fun _ _ _ h => h) (Or.inl ⟨by rfl, ?_⟩) ?_ ?_
  rotate_left
  · intro w'
    go_simp
    with_reducible rfl
  rotate_left
  · simp only [Act.put, List.setIfInBounds_toArray, List.set_cons_zero, List.set_cons_succ, iY, jB]
    rfl
  refine one_ (i := 1) (N := some 6) #[true, true, false, true, false, false, false, false] rfl rfl (mJ HT_.out (by kernel_rfl)) (by decide) (fun K hK => ?_)
  refine rE Tryd.func60 (by kernel_rfl) rfl #[.slice none 0 0, .slice A0 l0.length c0] (by rfl) rfl rfl (by (try simp only [List.map_toArray, List.map_cons, List.map_nil]); first | done | rfl | (simp only [List.length_drop, List.length_take]; rfl)) ?_
  refine (stratumref07_Entries.calls0 _ _ l0 t220 _ ?side1 ?side2 ?side3 ?side4 A3.out).mono ?_
  (case side1 => exact Kd.C_nil _ _)
  (case side2 => exact Nat.le_refl _)
  (case side3 => repeat (first | exact (Kd.C_below HR0.out HB.out) | (with_reducible refine Kd.C_alloc ?_ _) | (with_reducible refine Kd.C_drewN ?_ _) | (with_reducible refine Kd.C_drew ?_)))
  (case side4 => exact HC0.out)
  rintro e w6 ⟨v221, rfl, ho0, hb⟩
  refine ⟨_, rfl, ?_⟩
  have n0_ := iC.mk (Kd.R_lower ho0 (iQ hb_))
  have n1_ := iC.mk (iI hb_ hb)
  clear HB
  have HO222 := n0_
  have HB := n1_
  clear n0_ n1_
  (try clear hb)
  (try clear hb2)
  (try clear hk)
  (try clear hi)
  (try clear ho0)
  refine hK.out _ _ trivial (fun hHeld => ?_)
  clear hK K
  refine lK (a' := ?_) ?_ ?_
  rotate_left
  · show Act.put _ (some 6) _ = _
    simp only [Act.put, List.setIfInBounds_toArray, List.set_cons_zero, List.set_cons_succ, iY, jB]
    rfl
  refine U9 (σ := Value) 2 #[true, true, true, true, true, true, false, false] (fun s_ => [(7, .string (strOfNums t220)), (9, s_), (10, .string (strOfNums t223))]) (fun s_ w' => (Kd.R (Kd.int .u8) 5 w' w.heap.size (fun k_ => some k_ ≠ (s_ : Value).ownBlock) v221 t220) ∧ (Kd.R (Kd.int .u8) 5 w' w.heap.size (fun k_ => some k_ ≠ (v221 : Value).ownBlock) s_ t223) ∧ (Below w.heap.size w w')) ?_ ?_
  rotate_left
  · intro hCont
    refine two_ (i := 2) (j := 4) (Ni := some 7) (Nj := some 9) #[true, true, true, true, false, false, false, false] #[true, true, false, true, true, false, false, false] rfl rfl rfl rfl (JU HT_.out (by kernel_rfl)) (by decide) (by decide) (fun K hK => ?_) (fun K hK => ?_)
    · skip
      have hcv7 := kK (P := Tryd.prog) Tryd.underlying33 Tryd.underlying5 Tryd.underlying9 (Kd.own_of_R HO222.out)
      refine kG (w1 := ?_) (v := ?_) (by rfl) rfl ?_ ?_
      rotate_left 2
      · go_simp
        constructor
        · rfl
        · rfl
      clear hcv7
      refine hK.out _ _ trivial (fun hHeld => ?_)
      clear hK K
      refine lK (a' := ?_) ?_ ?_
      rotate_left
      · show Act.put _ (some 7) _ = _
        simp only [Act.put, List.setIfInBounds_toArray, List.set_cons_zero, List.set_cons_succ, iY, jB]
        rfl
      refine one_ (i := 4) (N := some 9) #[true, true, true, true, true, false, false, false] rfl rfl (mJ HT_.out (by kernel_rfl)) (by decide) (fun K hK => ?_)
      refine rE Tryd.func60 (by kernel_rfl) rfl #[.slice none 0 0, .slice A1 l1.length c1] (by rfl) rfl rfl (by (try simp only [List.map_toArray, List.map_cons, List.map_nil]); first | done | rfl | (simp only [List.length_drop, List.length_take]; rfl)) ?_
      refine (stratumref07_Entries.calls0 _ _ l1 t223 _ ?side1 ?side2 ?side3 ?side4 A4.out).mono ?_
      (case side1 => exact Kd.C_nil _ _)
      (case side2 => exact Nat.le_refl _)
      (case side3 => repeat (first | exact (Kd.C_below HR1.out HB.out) | (with_reducible refine Kd.C_alloc ?_ _) | (with_reducible refine Kd.C_drewN ?_ _) | (with_reducible refine Kd.C_drew ?_)))
      (case side4 => exact HC1.out)
      rintro e w8 ⟨v224, rfl, ho0, hb⟩
      refine ⟨_, rfl, ?_⟩
      have n0_ := iC.mk (Kd.R_elder' (by (with_reducible repeat (first | apply Kd.R_alloc | apply Kd.R_drewN | apply Kd.R_drew)); exact HO222.out) (Kd.R_base ho0) hb)
      have n1_ := iC.mk (Kd.R_lower (Kd.R_new' ho0 (Kd.R_lt (by (with_reducible repeat (first | apply Kd.R_alloc | apply Kd.R_drewN | apply Kd.R_drew)); exact HO222.out))) (iQ hb_))
      have n2_ := iC.mk (iI hb_ hb)
      clear HO222
      clear HB
      have HO222 := n0_
      have HO225 := n1_
      have HB := n2_
      clear n0_ n1_ n2_
      (try clear hb)
      (try clear hb2)
      (try clear hk)
      (try clear hi)
      (try clear ho0)
      refine hK.out _ _ trivial (fun hHeld => ?_)
      clear hK K
      refine lK (a' := ?_) ?_ ?_
      rotate_left
      · show Act.put _ (some 9) _ = _
        simp only [Act.put, List.setIfInBounds_toArray, List.set_cons_zero, List.set_cons_succ, iY, jB]
        rfl
      refine one_ (i := 5) (N := some 10) #[true, true, true, true, true, true, false, false] rfl rfl (mJ HT_.out (by kernel_rfl)) (by decide) (fun K hK => ?_)
      have hcv9 := kK (P := Tryd.prog) Tryd.underlying33 Tryd.underlying5 Tryd.underlying9 (Kd.own_of_R HO225.out)
      refine kG (w1 := ?_) (v := ?_) (by rfl) rfl ?_ ?_
      rotate_left 2
      · go_simp
        constructor
        · rfl
        · rfl
      clear hcv9
      refine hK.out _ _ trivial (fun hHeld => ?_)
      clear hK K
      refine lK (a' := ?_) ?_ ?_
      rotate_left
      · show Act.put _ (some 10) _ = _
        simp only [Act.put, List.setIfInBounds_toArray, List.set_cons_zero, List.set_cons_succ, iY, jB]
        rfl
      exact lK (by simp only [oO, Act.put, List.setIfInBounds_toArray, List.set_cons_zero, List.set_cons_succ]) (hCont (v224) _ ⟨(by (with_reducible repeat (first | apply Kd.R_alloc | apply Kd.R_drewN | apply Kd.R_drew)); exact Kd.R_mono HO222.out (fun _ hk => hk.2)), (by (with_reducible repeat (first | apply Kd.R_alloc | apply Kd.R_drewN | apply Kd.R_drew)); exact Kd.R_mono HO225.out (fun _ hk => hk.2)), hb_⟩)
    · skip
      refine rE Tryd.func60 (by kernel_rfl) rfl #[.slice none 0 0, .slice A1 l1.length c1] (by rfl) rfl rfl (by (try simp only [List.map_toArray, List.map_cons, List.map_nil]); first | done | rfl | (simp only [List.length_drop, List.length_take]; rfl)) ?_
      refine (stratumref07_Entries.calls0 _ _ l1 t223 _ ?side1 ?side2 ?side3 ?side4 A4.out).mono ?_
      (case side1 => exact Kd.C_nil _ _)
      (case side2 => exact Nat.le_refl _)
      (case side3 => repeat (first | exact (Kd.C_below HR1.out HB.out) | (with_reducible refine Kd.C_alloc ?_ _) | (with_reducible refine Kd.C_drewN ?_ _) | (with_reducible refine Kd.C_drew ?_)))
      (case side4 => exact HC1.out)
      rintro e w7 ⟨v224, rfl, ho0, hb⟩
      refine ⟨_, rfl, ?_⟩
      have n0_ := iC.mk (Kd.R_elder' (by (with_reducible repeat (first | apply Kd.R_alloc | apply Kd.R_drewN | apply Kd.R_drew)); exact HO222.out) (Kd.R_base ho0) hb)
      have n1_ := iC.mk (Kd.R_lower (Kd.R_new' ho0 (Kd.R_lt (by (with_reducible repeat (first | apply Kd.R_alloc | apply Kd.R_drewN | apply Kd.R_drew)); exact HO222.out))) (iQ hb_))
      have n2_ := iC.mk (iI hb_ hb)
      clear HO222
      clear HB
      have HO222 := n0_
      have HO225 := n1_
      have HB := n2_
      clear n0_ n1_ n2_
      (try clear hb)
      (try clear hb2)
      (try clear hk)
      (try clear hi)
      (try clear ho0)
      refine hK.out _ _ trivial (fun hHeld => ?_)
      clear hK K
      refine lK (a' := ?_) ?_ ?_
      rotate_left
      · show Act.put _ (some 9) _ = _
        simp only [Act.put, List.setIfInBounds_toArray, List.set_cons_zero, List.set_cons_succ, iY, jB]
        rfl
      refine two_ (i := 2) (j := 5) (Ni := some 7) (Nj := some 10) #[true, true, true, true, true, false, false, false] #[true, true, false, true, true, true, false, false] rfl rfl rfl rfl (JU HT_.out (by kernel_rfl)) (by decide) (by decide) (fun K hK => ?_) (fun K hK => ?_)
      · skip
        have hcv8 := kK (P := Tryd.prog) Tryd.underlying33 Tryd.underlying5 Tryd.underlying9 (Kd.own_of_R HO222.out)
        refine kG (w1 := ?_) (v := ?_) (by rfl) rfl ?_ ?_
        rotate_left 2
        · go_simp
          constructor
          · rfl
          · rfl
        clear hcv8
        refine hK.out _ _ trivial (fun hHeld => ?_)
        clear hK K
        refine lK (a' := ?_) ?_ ?_
        rotate_left
        · show Act.put _ (some 7) _ = _
          simp only [Act.put, List.setIfInBounds_toArray, List.set_cons_zero, List.set_cons_succ, iY, jB]
          rfl
        refine one_ (i := 5) (N := some 10) #[true, true, true, true, true, true, false, false] rfl rfl (mJ HT_.out (by kernel_rfl)) (by decide) (fun K hK => ?_)
        have hcv9 := kK (P := Tryd.prog) Tryd.underlying33 Tryd.underlying5 Tryd.underlying9 (Kd.own_of_R HO225.out)
        refine kG (w1 := ?_) (v := ?_) (by rfl) rfl ?_ ?_
        rotate_left 2
        · go_simp
          constructor
          · rfl
          · rfl
        clear hcv9
        refine hK.out _ _ trivial (fun hHeld => ?_)
        clear hK K
        refine lK (a' := ?_) ?_ ?_
        rotate_left
        · show Act.put _ (some 10) _ = _
          simp only [Act.put, List.setIfInBounds_toArray, List.set_cons_zero, List.set_cons_succ, iY, jB]
          rfl
        exact lK (by simp only [oO, Act.put, List.setIfInBounds_toArray, List.set_cons_zero, List.set_cons_succ]) (hCont (v224) _ ⟨(by (with_reducible repeat (first | apply Kd.R_alloc | apply Kd.R_drewN | apply Kd.R_drew)); exact Kd.R_mono HO222.out (fun _ hk => hk.2)), (by (with_reducible repeat (first | apply Kd.R_alloc | apply Kd.R_drewN | apply Kd.R_drew)); exact Kd.R_mono HO225.out (fun _ hk => hk.2)), hb_⟩)
      · skip
        have hcv8 := kK (P := Tryd.prog) Tryd.underlying33 Tryd.underlying5 Tryd.underlying9 (Kd.own_of_R HO225.out)
        refine kG (w1 := ?_) (v := ?_) (by rfl) rfl ?_ ?_
        rotate_left 2
        · go_simp
          constructor
          · rfl
          · rfl
        clear hcv8
        refine hK.out _ _ trivial (fun hHeld => ?_)
        clear hK K
        refine lK (a' := ?_) ?_ ?_
        rotate_left
        · show Act.put _ (some 10) _ = _
          simp only [Act.put, List.setIfInBounds_toArray, List.set_cons_zero, List.set_cons_succ, iY, jB]
          rfl
        refine one_ (i := 2) (N := some 7) #[true, true, true, true, true, true, false, false] rfl rfl (mJ HT_.out (by kernel_rfl)) (by decide) (fun K hK => ?_)
        have hcv9 := kK (P := Tryd.prog) Tryd.underlying33 Tryd.underlying5 Tryd.underlying9 (Kd.own_of_R HO222.out)
        refine kG (w1 := ?_) (v := ?_) (by rfl) rfl ?_ ?_
        rotate_left 2
        · go_simp
          constructor
          · rfl
          · rfl
        clear hcv9
        refine hK.out _ _ trivial (fun hHeld => ?_)
        clear hK K
        refine lK (a' := ?_) ?_ ?_
        rotate_left
        · show Act.put _ (some 7) _ = _
          simp only [Act.put, List.setIfInBounds_toArray, List.set_cons_zero, List.set_cons_succ, iY, jB]
          rfl
        exact lK (by simp only [oO, Act.put, List.setIfInBounds_toArray, List.set_cons_zero, List.set_cons_succ]) (hCont (v224) _ ⟨(by (with_reducible repeat (first | apply Kd.R_alloc | apply Kd.R_drewN | apply Kd.R_drew)); exact Kd.R_mono HO222.out (fun _ hk => hk.2)), (by (with_reducible repeat (first | apply Kd.R_alloc | apply Kd.R_drewN | apply Kd.R_drew)); exact Kd.R_mono HO225.out (fun _ hk => hk.2)), hb_⟩)
  rintro v224 w10 ⟨h0_, h1_, h2_⟩
  have n0_ : iC (Kd.R (Kd.int .u8) 5 w10 w.heap.size (fun k_ => some k_ ≠ (v224 : Value).ownBlock) v221 t220) := ⟨h0_⟩
  have n1_ : iC (Kd.R (Kd.int .u8) 5 w10 w.heap.size (fun k_ => some k_ ≠ (v221 : Value).ownBlock) v224 t223) := ⟨h1_⟩
  have n2_ : iC (Below w.heap.size w w10) := ⟨h2_⟩
  clear HB
  clear h0_ h1_ h2_
  have HO222 := n0_
  have HO225 := n1_
  have HB := n2_
  clear n0_ n1_ n2_
  have hHeld := trivial
  refine lK (a' := ?_) ?_ ?_
  rotate_left
  · simp only [oO, Act.put, List.setIfInBounds_toArray, List.set_cons_zero, List.set_cons_succ]
    rfl
  refine jP (i := 6) (N := some 11) (v := ?_) (a' := ?_) #[true, true, true, true, true, true, true, false] rfl rfl (jC HT_.out (by kernel_rfl)) (fun _ _ _ h => h) (Or.inl ⟨by rfl, ?_⟩) ?_ ?_
  rotate_left
  · intro w'
    go_simp
    with_reducible rfl
  rotate_left
  · simp only [Act.put, List.setIfInBounds_toArray, List.set_cons_zero, List.set_cons_succ, iY, jB]
    rfl
  refine jP (i := 7) (N := some 4) (v := ?_) (a' := ?_) #[true, true, true, true, true, true, true, true] rfl rfl (jC HT_.out (by kernel_rfl)) (fun _ _ _ h => h) (Or.inl ⟨by rfl, ?_⟩) ?_ ?_
  rotate_left
  · intro w'
    go_simp
    with_reducible rfl
  rotate_left
  · simp only [Act.put, List.setIfInBounds_toArray, List.set_cons_zero, List.set_cons_succ, iY, jB]
    rfl
  refine I9 (qB HT_.out (by kernel_rfl)) ?_
  try go_wp2
  go_ret
  exact ⟨by first | rfl | (simp [iM, iO] <;> rfl) | (simp [*, iM, iO] <;> rfl), hb_⟩
end Go.Proofs.YtgfkgppomaapiaaDoor.K
end
